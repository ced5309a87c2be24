/-
  The contracts of the reference's Kind, Bin, Un and Rel, as closed forms, in the form in which the kit's print uses a function's contract.
-/
import Derived.Test.YtjfmomogidgbpaaProg
import Derived.Below
import Derived.Deep.Draws
import Derived.Deep.AppendLies
import Derived.Maps.AppendAt
import Derived.OwnWalk
import Derived.Laws.BytesArg
import Derived.Laws.MakeOwn
import Derived.Laws.OwnMore
import Derived.Deep.OwnRows
import Derived.Tactics
import Derived.Lib.ConvBytes
import Derived.Laws.Slices
import Derived.WalkKit
import Derived.KernelRfl
import Derived.RowKit3
import Derived.Deep.LoopGhost
import Derived.Deep.QuietTactic
import Derived.BigQuiet
import Derived.WideLaws
import Derived.Deep.DeepCutAuto
import Derived.Deep.CutBlock
import Derived.Deep.RegionHeld3
import Derived.Laws.Rows
import Derived.Lib.AppendStr
import Derived.ArgAppend
import Derived.Laws.IdiomCopy
import Derived.OrdersHeld
import Derived.Laws.BitsLemmas
import Derived.RowKit
import Derived.Test.YtjfmomogidgbpaaZe0
import Derived.Test.YtjfmomogidgbpaaZe1
import Derived.Test.YtjfmomogidgbpaaZe2
import Derived.Test.YtjfmomogidgbpaaZe3
import Derived.Test.YtjfmomogidgbpaaZe4
namespace Go.Proofs.Ytjfmomogidgbpaa.PFl
open Go.RowKit Go.Proofs.YtjfmomogidgbpaaW.PrintWords Go.Proofs.YtjfmomogidgbpaaW.PrintLast Go.Proofs.YtjfmomogidgbpaaW.PrintMore
attribute [local go_sem] max2_int min2_int max_two min_two max_three min_three max_four min_four
set_option linter.unusedVariables false
set_option linter.unusedSimpArgs false
mutual
def ff_whole.j0 : Nat → Int → Int → Int → Int → Bool → Int → Int → Option (Int)
 | 0, _, _, _, _, _, _, _ => none
 | k + 1, x1, x2, x7, x8, x32, x245000, x245001 => if x32 = true then (some x2) else (if 0 ≤ (IntKind.u64.wrap (mn (wrap64 (-x8)) 63)) then (if 0 ≤ (IntKind.u64.wrap (wrap64 ((mn (wrap64 (-x8)) 63) - 1))) then (if x1 = 4 then (if (Go.bits .and .u64 x7 (IntKind.u64.wrap ((shl .u64 1 (IntKind.u64.wrap (mn (wrap64 (-x8)) 63))) - 1))) > 0 then ((ff_neg.f x245000 x245001 x2).bind fun t249 => (ff_whole.j1 k x2 (shr .u64 x7 (IntKind.u64.wrap (mn (wrap64 (-x8)) 63))) (!t249) x245000 x245001)) else (ff_whole.j1 k x2 (shr .u64 x7 (IntKind.u64.wrap (mn (wrap64 (-x8)) 63))) false x245000 x245001)) else (if x1 = 5 then (if (Go.bits .and .u64 x7 (IntKind.u64.wrap ((shl .u64 1 (IntKind.u64.wrap (mn (wrap64 (-x8)) 63))) - 1))) > 0 then ((ff_neg.f x245000 x245001 x2).bind fun t250 => (ff_whole.j1 k x2 (shr .u64 x7 (IntKind.u64.wrap (mn (wrap64 (-x8)) 63))) t250 x245000 x245001)) else (ff_whole.j1 k x2 (shr .u64 x7 (IntKind.u64.wrap (mn (wrap64 (-x8)) 63))) false x245000 x245001)) else (if x1 = 7 then (if (Go.bits .and .u64 x7 (IntKind.u64.wrap ((shl .u64 1 (IntKind.u64.wrap (mn (wrap64 (-x8)) 63))) - 1))) > (shl .u64 1 (IntKind.u64.wrap (wrap64 ((mn (wrap64 (-x8)) 63) - 1)))) then (ff_whole.j1 k x2 (shr .u64 x7 (IntKind.u64.wrap (mn (wrap64 (-x8)) 63))) true x245000 x245001) else (if (Go.bits .and .u64 x7 (IntKind.u64.wrap ((shl .u64 1 (IntKind.u64.wrap (mn (wrap64 (-x8)) 63))) - 1))) = (shl .u64 1 (IntKind.u64.wrap (wrap64 ((mn (wrap64 (-x8)) 63) - 1)))) then (ff_whole.j1 k x2 (shr .u64 x7 (IntKind.u64.wrap (mn (wrap64 (-x8)) 63))) ((Go.bits .and .u64 (shr .u64 x7 (IntKind.u64.wrap (mn (wrap64 (-x8)) 63))) 1) == 1) x245000 x245001) else (ff_whole.j1 k x2 (shr .u64 x7 (IntKind.u64.wrap (mn (wrap64 (-x8)) 63))) false x245000 x245001))) else (ff_whole.j1 k x2 (shr .u64 x7 (IntKind.u64.wrap (mn (wrap64 (-x8)) 63))) false x245000 x245001)))) else (none)) else (none))
def ff_whole.j1 : Nat → Int → Int → Bool → Int → Int → Option (Int)
 | 0, _, _, _, _, _ => none
 | k + 1, x2, x7, x12, x245000, x245001 => if x12 = true then ((ff_neg.f x245000 x245001 x2).bind fun t251 => ((ff_round.f k x245000 x245001 t251 (IntKind.u64.wrap (x7 + 1)) 0 false).bind fun t252 => (some t252))) else ((ff_neg.f x245000 x245001 x2).bind fun t253 => ((ff_round.f k x245000 x245001 t253 x7 0 false).bind fun t254 => (some t254)))
end
def ff_whole.f (k : Nat) (a0_0 : Int) (a0_1 : Int) (a1 : Int) (a2 : Int) : Option (Int) := (ff_parts.f a0_0 a0_1 a2).bind fun bt245 => ((ff_size.f a0_0 a0_1 a2).bind fun t247 => ((ff_infinity.f a0_0 a0_1).bind fun t248 => (if t247 ≥ t248 then (ff_whole.j0 k a1 a2 bt245.1 bt245.2 true a0_0 a0_1) else (if bt245.2 ≥ 0 then (ff_whole.j0 k a1 a2 bt245.1 bt245.2 true a0_0 a0_1) else (ff_whole.j0 k a1 a2 bt245.1 bt245.2 (bt245.1 == 0) a0_0 a0_1)))))
theorem ff_whole.mono_l : ∀ k, (∀ y0 y1 y2 y3 y4 y5 y6, LeO (ff_whole.j0 k y0 y1 y2 y3 y4 y5 y6) (ff_whole.j0 (k + 1) y0 y1 y2 y3 y4 y5 y6)) ∧ (∀ y0 y1 y2 y3 y4, LeO (ff_whole.j1 k y0 y1 y2 y3 y4) (ff_whole.j1 (k + 1) y0 y1 y2 y3 y4)) := by
 intro k
 induction k with
 | zero => exact ⟨fun _ _ _ _ _ _ _ r h => by simp [ff_whole.j0] at h, fun _ _ _ _ _ r h => by simp [ff_whole.j1] at h⟩
 | succ k ih =>
  obtain ⟨ih0, ih1⟩ := ih
  refine ⟨?_, ?_⟩
  ·intro y0 y1 y2 y3 y4 y5 y6
   unfold ff_whole.j0
   repeat' first
   | (with_reducible exact ih0 _ _ _ _ _ _ _)
   | (with_reducible exact ih1 _ _ _ _ _)
   | (with_reducible exact ff_round.mono _ _ _ _ _ _ _)
   | (with_reducible exact LeO.refl _)
   | (with_reducible exact LeO.none _)
   | (with_reducible refine LeO.ite ?_ ?_)
   | (with_reducible refine LeO.bind ?_ (fun _ => ?_))
   | exact ih0 _ _ _ _ _ _ _
   | exact ih1 _ _ _ _ _
   | exact ff_round.mono _ _ _ _ _ _ _
   | exact LeO.none _
   | refine LeO.ite ?_ ?_
   | refine LeO.bind ?_ (fun _ => ?_)
  ·intro y0 y1 y2 y3 y4
   unfold ff_whole.j1
   repeat' first
   | (with_reducible exact ih0 _ _ _ _ _ _ _)
   | (with_reducible exact ih1 _ _ _ _ _)
   | (with_reducible exact ff_round.mono _ _ _ _ _ _ _)
   | (with_reducible exact LeO.refl _)
   | (with_reducible exact LeO.none _)
   | (with_reducible refine LeO.ite ?_ ?_)
   | (with_reducible refine LeO.bind ?_ (fun _ => ?_))
   | exact ih0 _ _ _ _ _ _ _
   | exact ih1 _ _ _ _ _
   | exact ff_round.mono _ _ _ _ _ _ _
   | exact LeO.none _
   | refine LeO.ite ?_ ?_
   | refine LeO.bind ?_ (fun _ => ?_)
theorem ff_whole.mono : ∀ a0 a1 a2 a3 k, LeO (ff_whole.f k a0 a1 a2 a3) (ff_whole.f (k + 1) a0 a1 a2 a3) := by
 intro a0 a1 a2 a3 k
 obtain ⟨ih0, ih1⟩ := ff_whole.mono_l k
 unfold ff_whole.f
 repeat' first
   | (with_reducible exact ih0 _ _ _ _ _ _ _)
   | (with_reducible exact ih1 _ _ _ _ _)
   | (with_reducible exact ff_round.mono _ _ _ _ _ _ _)
   | (with_reducible exact LeO.refl _)
   | (with_reducible exact LeO.none _)
   | (with_reducible refine LeO.ite ?_ ?_)
   | (with_reducible refine LeO.bind ?_ (fun _ => ?_))
   | exact ih0 _ _ _ _ _ _ _
   | exact ih1 _ _ _ _ _
   | exact ff_round.mono _ _ _ _ _ _ _
   | exact LeO.none _
   | refine LeO.ite ?_ ?_
   | refine LeO.bind ?_ (fun _ => ?_)
def ff_whole.T2 : Bool × List (List Nat × List Nat) := (true, [([], []), ([], []), ([0, 1], [0, 1]), ([], []), ([3, 2], [3]), ([2, 4], [2, 4]), ([5, 4], [5]), ([6], [6]), ([7, 6], [6, 7]), ([6, 8], [6, 8]), ([9, 6], [9]), ([10], [10]), ([11, 10], [10, 11]), ([10, 12], [10, 12])])
def ff_whole.B2 : List Nat := [0, 0, 3, 0, 15, 31, 63, 127, 255, 511, 1023, 2047, 4095, 8191]
theorem ff_whole.tab2 : rtab .any (opsOf Try.f49 2) = ff_whole.T2 := by kernel_rfl
theorem ff_whole.bits2 : waitsOk ff_whole.T2.2 ff_whole.B2 = true := by kernel_rfl
set_option maxHeartbeats 8000000 in
set_option maxRecDepth 100000 in
theorem ff_whole.calls (k : Nat) (a0_0 : Int) (a0_1 : Int) (a1 : Int) (a2 : Int) (r : Int) (w : World) (h : ff_whole.f k a0_0 a0_1 a1 a2 = some r) :
  Calls Try.prog 49 #[.agg #[.int .i64 a0_0, .int .i64 a0_1], .int .i64 a1, .int .u64 a2] w fun e w' => e = .returned (.int .u64 r) ∧ Below w.heap.size w w' := by
 have hu43 := Try.underlying43
 have HB := As0.mk (Below.refl w.heap.size w)
 have H : ((ff_parts.f a0_0 a0_1 a2).bind fun bt245 => ((ff_size.f a0_0 a0_1 a2).bind fun t247 => ((ff_infinity.f a0_0 a0_1).bind fun t248 => (if t247 ≥ t248 then (ff_whole.j0 k a1 a2 bt245.1 bt245.2 true a0_0 a0_1) else (if bt245.2 ≥ 0 then (ff_whole.j0 k a1 a2 bt245.1 bt245.2 true a0_0 a0_1) else (ff_whole.j0 k a1 a2 bt245.1 bt245.2 (bt245.1 == 0) a0_0 a0_1)))))) = some r := h
 clear h
 replace H := zob H
 obtain ⟨⟨t245, t246⟩, A40, H⟩ := H
 replace H : ((ff_size.f a0_0 a0_1 a2).bind fun t247 => ((ff_infinity.f a0_0 a0_1).bind fun t248 => (if t247 ≥ t248 then (ff_whole.j0 k a1 a2 t245 t246 true a0_0 a0_1) else (if t246 ≥ 0 then (ff_whole.j0 k a1 a2 t245 t246 true a0_0 a0_1) else (ff_whole.j0 k a1 a2 t245 t246 (t245 == 0) a0_0 a0_1))))) = some r := H
 have A4 := As0.mk A40
 clear A40
 have HC5 := As0.mk H
 clear H
 go_enter Try.func49, Try.ntmps49
 go_upto_region 2 with (first | ((with_reducible refine gate_dst (N := 3) rfl ?_); refine box_event ?hg (N := 3) ?hd (cs := #[.int .i64 a0_0, .int .i64 a0_1]) (t := 43) ?hr ?_; (case hd => rfl); (case hg => rfl); (case hr => first | (go_simp; done) | (go_simp; rfl)); intro gb244 hg w6 hbox hb; have n0_ := As0.mk (bst (by repeat (first | (with_reducible first | exact HB.out | apply bal | apply pwB_ | apply bd1) | exact HB.out)) hb); have n1_ := As0.mk (hbox); have n2_ := As0.mk ((by rw [hg]; exact (below_size (by repeat (first | (with_reducible first | exact HB.out | apply bal | apply pwB_ | apply bd1) | exact HB.out))) : w.heap.size ≤ gb244)); have n3_ := As0.mk ((by rw [hg]; exact (below_size (by repeat (first | (with_reducible first | exact HB.out | apply bal | apply pwB_ | apply bd1) | exact HB.out))) : w.heap.size ≤ gb244)); clear HB; have HB := n0_; have BK244 := n1_; have GW244 := n2_; have GE244 := n3_; clear n0_ n1_ n2_ n3_; clear hb hbox hg; have hcz7_0 : w6.cell? ⟨gb244, 0, none⟩ = some (.int .i64 a0_0) := (bce BK244.out 0).trans rfl; have hcz7_1 : w6.cell? ⟨gb244, 1, none⟩ = some (.int .i64 a0_1) := (bce BK244.out 1).trans rfl; have hfz7_0 := bkf BK244.out 0; have hfz7_1 := bkf BK244.out 1) | ((with_reducible refine gcl (f := 57) rfl ?_); refine goesL_ (some 16) rfl rfl Try.func57 (by kernel_rfl) rfl #[.agg #[.int .i64 a0_0, .int .i64 a0_1], .int .u64 a2] rfl (by (try simp only [zmt, zmc, zmn]); first | done | rfl) ?_; (with_reducible refine (ff_parts.calls a0_0 a0_1 a2 t245 t246 _ A4.out).mono ?_); rintro e w8 ⟨rfl, hb⟩; refine ⟨_, rfl, ?_⟩; have n0_ := As0.mk (bkb (g := gb244) (o := .cells #[.int .i64 a0_0, .int .i64 a0_1] 43 (0, 0)) (by (with_reducible repeat (first | refine bkN ?_ _ | refine bkd ?_ | refine bka ?_ _)); exact BK244.out) hb); have n1_ := As0.mk (bst (by repeat (first | (with_reducible first | exact HB.out | apply bal | apply pwB_ | apply bd1 | refine bse ?_ GE244.out) | exact HB.out)) hb); clear BK244; clear HB; have BK244 := n0_; have HB := n1_; clear n0_ n1_; (try clear hb); (try clear hb2); (try clear hk); (try clear hi)))
 (try simp only [Act.put, zsi, zcz, zcs])
 go_cut [32] (fun v32 wc => ∃ (kq : Nat) (x32_4 : Bool), v32 = .bool x32_4 ∧ As0 (ff_whole.j0 kq a1 a2 t245 t246 x32_4 a0_0 a0_1 = some r) ∧ As0 (kq ≤ k) ∧ As0 (wc.heap[gb244]? = some (.cells #[.int .i64 a0_0, .int .i64 a0_1] 43 (0, 0))) ∧ As0 (Below w.heap.size w wc))
 case first =>
  have H := HC5.out
  clear HC5
  replace H := zob H
  obtain ⟨t247, A90, H⟩ := H
  replace H : ((ff_infinity.f a0_0 a0_1).bind fun t248 => (if t247 ≥ t248 then (ff_whole.j0 k a1 a2 t245 t246 true a0_0 a0_1) else (if t246 ≥ 0 then (ff_whole.j0 k a1 a2 t245 t246 true a0_0 a0_1) else (ff_whole.j0 k a1 a2 t245 t246 (t245 == 0) a0_0 a0_1)))) = some r := H
  have A9 := As0.mk A90
  clear A90
  replace H := zob H
  obtain ⟨t248, A100, H⟩ := H
  replace H : (if t247 ≥ t248 then (ff_whole.j0 k a1 a2 t245 t246 true a0_0 a0_1) else (if t246 ≥ 0 then (ff_whole.j0 k a1 a2 t245 t246 true a0_0 a0_1) else (ff_whole.j0 k a1 a2 t245 t246 (t245 == 0) a0_0 a0_1))) = some r := H
  have A10 := As0.mk A100
  clear A100
  by_cases c11 : t247 ≥ t248
  ·rw [if_pos c11] at H
   have c11b0 : decide (t248 ≤ t247) = true := decide_eq_true c11
   clear c11
   (first | rw [c11b0] | (simp only [i64_w, i32_w]; rw [c11b0]) | skip)
   have H' := As0.mk H
   clear H
   try go_wp2
   have n0_ := As0.mk (bkd BK244.out)
   have n1_ := As0.mk (bd1 HB.out)
   clear BK244
   clear HB
   have BK244 := n0_
   have HB := n1_
   clear n0_ n1_
   refine start_ (n := 14) (S := fun w' => w'.cell? ⟨gb244, 0, none⟩ = some (.int .i64 a0_0) ∧ w'.cell? ⟨gb244, 1, none⟩ = some (.int .i64 a0_1)) (ds := []) #[false, false, false, false, false, false, false, false, false, false, false, false, false, false] (by kernel_rfl) rfl rfl ⟨(bce BK244.out 0).trans rfl, (bce BK244.out 1).trans rfl⟩ (fun hHeld => ?_); refine with_tabW ff_whole.tab2 ff_whole.bits2 (fun HT_ HW_ => ?_)
   generalize w8.drew = w12 at BK244 HB hHeld ⊢
   refine pure_ (i := 1) (N := some 20) (v := ?_) (a' := ?_) #[false, true, false, false, false, false, false, false, false, false, false, false, false, false] rfl rfl (any_of HT_.out (by kernel_rfl)) (fun _ _ _ h => h) (Or.inl ⟨by rfl, ?_⟩) ?_ ?_
   rotate_left
   ·intro w'
    go_simp
    with_reducible rfl
   rotate_left
   ·simp only [Act.put, zsi, zcz, zcs, i64_w, i32_w]
    rfl
   refine take_ (i := 0) (N := some 19) (v := ?_) (a' := ?_) #[true, true, false, false, false, false, false, false, false, false, false, false, false, false] rfl rfl (take_ofW HT_.out HW_.out (by kernel_rfl)) (fun _ _ _ h => h) (Or.inl ⟨by rfl, ?_⟩) hHeld ?_ ?_
   rotate_left
   ·rintro w' ⟨s0, s1⟩
    go_simp
    with_reducible rfl
   rotate_left
   ·simp only [Act.put, zsi, zcz, zcs, i64_w, i32_w]
    rfl
   refine take_ (i := 3) (N := some 22) (v := ?_) (a' := ?_) #[true, true, false, true, false, false, false, false, false, false, false, false, false, false] rfl rfl (take_ofW HT_.out HW_.out (by kernel_rfl)) (fun _ _ _ h => h) (Or.inl ⟨by rfl, ?_⟩) hHeld ?_ ?_
   rotate_left
   ·rintro w' ⟨s0, s1⟩
    go_simp
    with_reducible rfl
   rotate_left
   ·simp only [Act.put, zsi, zcz, zcs, i64_w, i32_w]
    rfl
   refine one_ (i := 2) (N := some 21) #[true, true, true, true, false, false, false, false, false, false, false, false, false, false] rfl rfl (one_of HT_.out (by kernel_rfl)) (by decide) (fun K hK => ?_)
   refine goes_ Try.func40 (by kernel_rfl) rfl #[.agg #[.int .i64 a0_0, .int .i64 a0_1], .int .u64 a2] (by rfl) rfl rfl (by (try simp only [zmt, zmc, zmn]); first | done | rfl) ?_
   with_reducible refine (ff_size.calls a0_0 a0_1 a2 t247 _ A9.out).mono ?_
   rintro e w13 ⟨rfl, hb⟩
   refine ⟨_, rfl, ?_⟩
   have n0_ := As0.mk (bkb (g := gb244) (o := .cells #[.int .i64 a0_0, .int .i64 a0_1] 43 (0, 0)) (by (with_reducible repeat (first | refine bkN ?_ _ | refine bkd ?_ | refine bka ?_ _)); exact BK244.out) hb)
   have n1_ := As0.mk (bst (by repeat (first | (with_reducible first | exact HB.out | apply bal | apply pwB_ | apply bd1 | refine bse ?_ GE244.out) | exact HB.out)) hb)
   clear BK244
   clear HB
   have BK244 := n0_
   have HB := n1_
   clear n0_ n1_
   (try clear hb)
   (try clear hb2)
   (try clear hk)
   (try clear hi)
   refine hK.out _ _ ⟨(bce BK244.out 0).trans rfl, (bce BK244.out 1).trans rfl⟩ (fun hHeld => ?_)
   clear hK K
   refine norm_ (a' := ?_) ?_ ?_
   rotate_left
   ·show Act.put _ (some 21) _ = _
    simp only [Act.put, zsi, zcz, zcs, i64_w, i32_w]
    rfl
   refine one_ (i := 4) (N := some 23) #[true, true, true, true, true, false, false, false, false, false, false, false, false, false] rfl rfl (one_of HT_.out (by kernel_rfl)) (by decide) (fun K hK => ?_)
   refine goes_ Try.func50 (by kernel_rfl) rfl #[.agg #[.int .i64 a0_0, .int .i64 a0_1]] (by rfl) rfl rfl (by (try simp only [zmt, zmc, zmn]); first | done | rfl) ?_
   with_reducible refine (ff_infinity.calls a0_0 a0_1 t248 _ A10.out).mono ?_
   rintro e w14 ⟨rfl, hb⟩
   refine ⟨_, rfl, ?_⟩
   have n0_ := As0.mk (bkb (g := gb244) (o := .cells #[.int .i64 a0_0, .int .i64 a0_1] 43 (0, 0)) (by (with_reducible repeat (first | refine bkN ?_ _ | refine bkd ?_ | refine bka ?_ _)); exact BK244.out) hb)
   have n1_ := As0.mk (bst (by repeat (first | (with_reducible first | exact HB.out | apply bal | apply pwB_ | apply bd1 | refine bse ?_ GE244.out) | exact HB.out)) hb)
   clear BK244
   clear HB
   have BK244 := n0_
   have HB := n1_
   clear n0_ n1_
   (try clear hb)
   (try clear hb2)
   (try clear hk)
   (try clear hi)
   refine hK.out _ _ ⟨(bce BK244.out 0).trans rfl, (bce BK244.out 1).trans rfl⟩ (fun hHeld => ?_)
   clear hK K
   refine norm_ (a' := ?_) ?_ ?_
   rotate_left
   ·show Act.put _ (some 23) _ = _
    simp only [Act.put, zsi, zcz, zcs, i64_w, i32_w]
    rfl
   refine pure_ (i := 5) (N := some 24) (v := ?_) (a' := ?_) #[true, true, true, true, true, true, false, false, false, false, false, false, false, false] rfl rfl (any_of HT_.out (by kernel_rfl)) (fun _ _ _ h => h) (Or.inl ⟨by rfl, ?_⟩) ?_ ?_
   rotate_left
   ·intro w'
    go_simp
    with_reducible rfl
   rotate_left
   ·simp only [Act.put, zsi, zcz, zcs, i64_w, i32_w]
    rfl
   refine pure_ (i := 6) (N := some 25) (v := ?_) (a' := ?_) #[true, true, true, true, true, true, true, false, false, false, false, false, false, false] rfl rfl (any_of HT_.out (by kernel_rfl)) (fun _ _ _ h => h) (Or.inl ⟨by rfl, ?_⟩) ?_ ?_
   rotate_left
   ·intro w'
    go_simp
    with_reducible rfl
   rotate_left
   ·simp only [Act.put, zsi, zcz, zcs, i64_w, i32_w]
    rfl
   refine pure_ (i := 7) (N := some 26) (v := undef) (a' := ?_) #[true, true, true, true, true, true, true, true, false, false, false, false, false, false] rfl rfl (any_of HT_.out (by kernel_rfl)) (fun _ _ _ h => h) (Or.inr ⟨by rfl, rfl⟩) ?_ ?_
   rotate_left
   ·simp only [Act.put, zsi, zcz, zcs, i64_w, i32_w]
    rfl
   refine pure_ (i := 8) (N := some 27) (v := undef) (a' := ?_) #[true, true, true, true, true, true, true, true, true, false, false, false, false, false] rfl rfl (any_of HT_.out (by kernel_rfl)) (fun _ _ _ h => h) (Or.inr ⟨by rfl, rfl⟩) ?_ ?_
   rotate_left
   ·simp only [Act.put, zsi, zcz, zcs, i64_w, i32_w]
    rfl
   refine pure_ (i := 9) (N := some 28) (v := ?_) (a' := ?_) #[true, true, true, true, true, true, true, true, true, true, false, false, false, false] rfl rfl (any_of HT_.out (by kernel_rfl)) (fun _ _ _ h => h) (Or.inl ⟨by rfl, ?_⟩) ?_ ?_
   rotate_left
   ·intro w'
    go_simp
    with_reducible rfl
   rotate_left
   ·simp only [Act.put, zsi, zcz, zcs, i64_w, i32_w]
    rfl
   refine pure_ (i := 10) (N := some 29) (v := ?_) (a' := ?_) #[true, true, true, true, true, true, true, true, true, true, true, false, false, false] rfl rfl (any_of HT_.out (by kernel_rfl)) (fun _ _ _ h => h) (Or.inl ⟨by rfl, ?_⟩) ?_ ?_
   rotate_left
   ·intro w'
    go_simp
    with_reducible rfl
   rotate_left
   ·simp only [Act.put, zsi, zcz, zcs, i64_w, i32_w]
    rfl
   refine pure_ (i := 11) (N := some 30) (v := undef) (a' := ?_) #[true, true, true, true, true, true, true, true, true, true, true, true, false, false] rfl rfl (any_of HT_.out (by kernel_rfl)) (fun _ _ _ h => h) (Or.inr ⟨by rfl, rfl⟩) ?_ ?_
   rotate_left
   ·simp only [Act.put, zsi, zcz, zcs, i64_w, i32_w]
    rfl
   refine pure_ (i := 12) (N := some 31) (v := undef) (a' := ?_) #[true, true, true, true, true, true, true, true, true, true, true, true, true, false] rfl rfl (any_of HT_.out (by kernel_rfl)) (fun _ _ _ h => h) (Or.inr ⟨by rfl, rfl⟩) ?_ ?_
   rotate_left
   ·simp only [Act.put, zsi, zcz, zcs, i64_w, i32_w]
    rfl
   refine pure_ (i := 13) (N := some 32) (v := ?_) (a' := ?_) #[true, true, true, true, true, true, true, true, true, true, true, true, true, true] rfl rfl (any_of HT_.out (by kernel_rfl)) (fun _ _ _ h => h) (Or.inl ⟨by rfl, ?_⟩) ?_ ?_
   rotate_left
   ·intro w'
    go_simp
    with_reducible rfl
   rotate_left
   ·simp only [Act.put, zsi, zcz, zcs, i64_w, i32_w]
    rfl
   refine done_ (done_of HT_.out (by kernel_rfl)) ?_
   try go_wp2
   go_meet
   case rel => exact ⟨_, (true), (by first | rfl | (simp; done) | (simp [*]; done)), H', ⟨by first | omega | exact Nat.le_refl _⟩, ⟨by (with_reducible repeat (first | refine bkN ?_ _ | refine bkd ?_ | refine bka ?_ _)); exact BK244.out⟩, ⟨by repeat (first | (with_reducible first | exact HB.out | apply bal | apply pwB_ | apply bd1 | refine bse ?_ GE244.out) | exact HB.out)⟩⟩
  ·rw [if_neg c11] at H
   have c11b0 : decide (t248 ≤ t247) = false := decide_eq_false c11
   clear c11
   (first | rw [c11b0] | (simp only [i64_w, i32_w]; rw [c11b0]) | skip)
   by_cases c15 : t246 ≥ 0
   ·rw [if_pos c15] at H
    have c15b0 : decide (0 ≤ t246) = true := decide_eq_true c15
    clear c15
    have H' := As0.mk H
    clear H
    try go_wp2
    have n0_ := As0.mk (bkd BK244.out)
    have n1_ := As0.mk (bd1 HB.out)
    clear BK244
    clear HB
    have BK244 := n0_
    have HB := n1_
    clear n0_ n1_
    refine start_ (n := 14) (S := fun w' => w'.cell? ⟨gb244, 0, none⟩ = some (.int .i64 a0_0) ∧ w'.cell? ⟨gb244, 1, none⟩ = some (.int .i64 a0_1)) (ds := []) #[false, false, false, false, false, false, false, false, false, false, false, false, false, false] (by kernel_rfl) rfl rfl ⟨(bce BK244.out 0).trans rfl, (bce BK244.out 1).trans rfl⟩ (fun hHeld => ?_); refine with_tabW ff_whole.tab2 ff_whole.bits2 (fun HT_ HW_ => ?_)
    generalize w8.drew = w16 at BK244 HB hHeld ⊢
    refine pure_ (i := 1) (N := some 20) (v := ?_) (a' := ?_) #[false, true, false, false, false, false, false, false, false, false, false, false, false, false] rfl rfl (any_of HT_.out (by kernel_rfl)) (fun _ _ _ h => h) (Or.inl ⟨by rfl, ?_⟩) ?_ ?_
    rotate_left
    ·intro w'
     go_simp
     with_reducible rfl
    rotate_left
    ·simp only [Act.put, zsi, zcz, zcs, i64_w, i32_w]
     rfl
    refine take_ (i := 0) (N := some 19) (v := ?_) (a' := ?_) #[true, true, false, false, false, false, false, false, false, false, false, false, false, false] rfl rfl (take_ofW HT_.out HW_.out (by kernel_rfl)) (fun _ _ _ h => h) (Or.inl ⟨by rfl, ?_⟩) hHeld ?_ ?_
    rotate_left
    ·rintro w' ⟨s0, s1⟩
     go_simp
     with_reducible rfl
    rotate_left
    ·simp only [Act.put, zsi, zcz, zcs, i64_w, i32_w]
     rfl
    refine take_ (i := 3) (N := some 22) (v := ?_) (a' := ?_) #[true, true, false, true, false, false, false, false, false, false, false, false, false, false] rfl rfl (take_ofW HT_.out HW_.out (by kernel_rfl)) (fun _ _ _ h => h) (Or.inl ⟨by rfl, ?_⟩) hHeld ?_ ?_
    rotate_left
    ·rintro w' ⟨s0, s1⟩
     go_simp
     with_reducible rfl
    rotate_left
    ·simp only [Act.put, zsi, zcz, zcs, i64_w, i32_w]
     rfl
    refine one_ (i := 2) (N := some 21) #[true, true, true, true, false, false, false, false, false, false, false, false, false, false] rfl rfl (one_of HT_.out (by kernel_rfl)) (by decide) (fun K hK => ?_)
    refine goes_ Try.func40 (by kernel_rfl) rfl #[.agg #[.int .i64 a0_0, .int .i64 a0_1], .int .u64 a2] (by rfl) rfl rfl (by (try simp only [zmt, zmc, zmn]); first | done | rfl) ?_
    with_reducible refine (ff_size.calls a0_0 a0_1 a2 t247 _ A9.out).mono ?_
    rintro e w17 ⟨rfl, hb⟩
    refine ⟨_, rfl, ?_⟩
    have n0_ := As0.mk (bkb (g := gb244) (o := .cells #[.int .i64 a0_0, .int .i64 a0_1] 43 (0, 0)) (by (with_reducible repeat (first | refine bkN ?_ _ | refine bkd ?_ | refine bka ?_ _)); exact BK244.out) hb)
    have n1_ := As0.mk (bst (by repeat (first | (with_reducible first | exact HB.out | apply bal | apply pwB_ | apply bd1 | refine bse ?_ GE244.out) | exact HB.out)) hb)
    clear BK244
    clear HB
    have BK244 := n0_
    have HB := n1_
    clear n0_ n1_
    (try clear hb)
    (try clear hb2)
    (try clear hk)
    (try clear hi)
    refine hK.out _ _ ⟨(bce BK244.out 0).trans rfl, (bce BK244.out 1).trans rfl⟩ (fun hHeld => ?_)
    clear hK K
    refine norm_ (a' := ?_) ?_ ?_
    rotate_left
    ·show Act.put _ (some 21) _ = _
     simp only [Act.put, zsi, zcz, zcs, i64_w, i32_w]
     rfl
    refine one_ (i := 4) (N := some 23) #[true, true, true, true, true, false, false, false, false, false, false, false, false, false] rfl rfl (one_of HT_.out (by kernel_rfl)) (by decide) (fun K hK => ?_)
    refine goes_ Try.func50 (by kernel_rfl) rfl #[.agg #[.int .i64 a0_0, .int .i64 a0_1]] (by rfl) rfl rfl (by (try simp only [zmt, zmc, zmn]); first | done | rfl) ?_
    with_reducible refine (ff_infinity.calls a0_0 a0_1 t248 _ A10.out).mono ?_
    rintro e w18 ⟨rfl, hb⟩
    refine ⟨_, rfl, ?_⟩
    have n0_ := As0.mk (bkb (g := gb244) (o := .cells #[.int .i64 a0_0, .int .i64 a0_1] 43 (0, 0)) (by (with_reducible repeat (first | refine bkN ?_ _ | refine bkd ?_ | refine bka ?_ _)); exact BK244.out) hb)
    have n1_ := As0.mk (bst (by repeat (first | (with_reducible first | exact HB.out | apply bal | apply pwB_ | apply bd1 | refine bse ?_ GE244.out) | exact HB.out)) hb)
    clear BK244
    clear HB
    have BK244 := n0_
    have HB := n1_
    clear n0_ n1_
    (try clear hb)
    (try clear hb2)
    (try clear hk)
    (try clear hi)
    refine hK.out _ _ ⟨(bce BK244.out 0).trans rfl, (bce BK244.out 1).trans rfl⟩ (fun hHeld => ?_)
    clear hK K
    refine norm_ (a' := ?_) ?_ ?_
    rotate_left
    ·show Act.put _ (some 23) _ = _
     simp only [Act.put, zsi, zcz, zcs, i64_w, i32_w]
     rfl
    refine pure_ (i := 5) (N := some 24) (v := ?_) (a' := ?_) #[true, true, true, true, true, true, false, false, false, false, false, false, false, false] rfl rfl (any_of HT_.out (by kernel_rfl)) (fun _ _ _ h => h) (Or.inl ⟨by rfl, ?_⟩) ?_ ?_
    rotate_left
    ·intro w'
     go_simp
     with_reducible rfl
    rotate_left
    ·simp only [Act.put, zsi, zcz, zcs, i64_w, i32_w]
     rfl
    refine pure_ (i := 6) (N := some 25) (v := ?_) (a' := ?_) #[true, true, true, true, true, true, true, false, false, false, false, false, false, false] rfl rfl (any_of HT_.out (by kernel_rfl)) (fun _ _ _ h => h) (Or.inl ⟨by rfl, ?_⟩) ?_ ?_
    rotate_left
    ·intro w'
     go_simp
     with_reducible rfl
    rotate_left
    ·simp only [Act.put, zsi, zcz, zcs, i64_w, i32_w]
     rfl
    refine pure_ (i := 7) (N := some 26) (v := ?_) (a' := ?_) #[true, true, true, true, true, true, true, true, false, false, false, false, false, false] rfl rfl (any_of HT_.out (by kernel_rfl)) (fun _ _ _ h => h) (Or.inl ⟨by rfl, ?_⟩) ?_ ?_
    rotate_left
    ·intro w'
     go_simp
     with_reducible rfl
    rotate_left
    ·simp only [Act.put, zsi, zcz, zcs, i64_w, i32_w]
     rfl
    refine pure_ (i := 8) (N := some 27) (v := ?_) (a' := ?_) #[true, true, true, true, true, true, true, true, true, false, false, false, false, false] rfl rfl (any_of HT_.out (by kernel_rfl)) (fun _ _ _ h => h) (Or.inl ⟨by rfl, ?_⟩) ?_ ?_
    rotate_left
    ·intro w'
     go_simp
     with_reducible rfl
    rotate_left
    ·simp only [Act.put, zsi, zcz, zcs, i64_w, i32_w]
     rfl
    refine pure_ (i := 9) (N := some 28) (v := ?_) (a' := ?_) #[true, true, true, true, true, true, true, true, true, true, false, false, false, false] rfl rfl (any_of HT_.out (by kernel_rfl)) (fun _ _ _ h => h) (Or.inl ⟨by rfl, ?_⟩) ?_ ?_
    rotate_left
    ·intro w'
     go_simp
     with_reducible rfl
    rotate_left
    ·simp only [Act.put, zsi, zcz, zcs, i64_w, i32_w]
     rfl
    refine pure_ (i := 10) (N := some 29) (v := ?_) (a' := ?_) #[true, true, true, true, true, true, true, true, true, true, true, false, false, false] rfl rfl (any_of HT_.out (by kernel_rfl)) (fun _ _ _ h => h) (Or.inl ⟨by rfl, ?_⟩) ?_ ?_
    rotate_left
    ·intro w'
     go_simp
     with_reducible rfl
    rotate_left
    ·simp only [Act.put, zsi, zcz, zcs, i64_w, i32_w]
     rfl
    refine pure_ (i := 11) (N := some 30) (v := undef) (a' := ?_) #[true, true, true, true, true, true, true, true, true, true, true, true, false, false] rfl rfl (any_of HT_.out (by kernel_rfl)) (fun _ _ _ h => h) (Or.inr ⟨by rfl, rfl⟩) ?_ ?_
    rotate_left
    ·simp only [Act.put, zsi, zcz, zcs, i64_w, i32_w]
     rfl
    refine pure_ (i := 12) (N := some 31) (v := undef) (a' := ?_) #[true, true, true, true, true, true, true, true, true, true, true, true, true, false] rfl rfl (any_of HT_.out (by kernel_rfl)) (fun _ _ _ h => h) (Or.inr ⟨by rfl, rfl⟩) ?_ ?_
    rotate_left
    ·simp only [Act.put, zsi, zcz, zcs, i64_w, i32_w]
     rfl
    refine pure_ (i := 13) (N := some 32) (v := ?_) (a' := ?_) #[true, true, true, true, true, true, true, true, true, true, true, true, true, true] rfl rfl (any_of HT_.out (by kernel_rfl)) (fun _ _ _ h => h) (Or.inl ⟨by rfl, ?_⟩) ?_ ?_
    rotate_left
    ·intro w'
     go_simp
     with_reducible rfl
    rotate_left
    ·simp only [Act.put, zsi, zcz, zcs, i64_w, i32_w]
     rfl
    refine done_ (done_of HT_.out (by kernel_rfl)) ?_
    try go_wp2
    go_meet
    case rel => exact ⟨_, (true), (by first | rfl | (simp; done) | (simp [*]; done)), H', ⟨by first | omega | exact Nat.le_refl _⟩, ⟨by (with_reducible repeat (first | refine bkN ?_ _ | refine bkd ?_ | refine bka ?_ _)); exact BK244.out⟩, ⟨by repeat (first | (with_reducible first | exact HB.out | apply bal | apply pwB_ | apply bd1 | refine bse ?_ GE244.out) | exact HB.out)⟩⟩
   ·rw [if_neg c15] at H
    have c15b0 : decide (0 ≤ t246) = false := decide_eq_false c15
    clear c15
    have H' := As0.mk H
    clear H
    try go_wp2
    have n0_ := As0.mk (bkd BK244.out)
    have n1_ := As0.mk (bd1 HB.out)
    clear BK244
    clear HB
    have BK244 := n0_
    have HB := n1_
    clear n0_ n1_
    refine start_ (n := 14) (S := fun w' => w'.cell? ⟨gb244, 0, none⟩ = some (.int .i64 a0_0) ∧ w'.cell? ⟨gb244, 1, none⟩ = some (.int .i64 a0_1)) (ds := []) #[false, false, false, false, false, false, false, false, false, false, false, false, false, false] (by kernel_rfl) rfl rfl ⟨(bce BK244.out 0).trans rfl, (bce BK244.out 1).trans rfl⟩ (fun hHeld => ?_); refine with_tabW ff_whole.tab2 ff_whole.bits2 (fun HT_ HW_ => ?_)
    generalize w8.drew = w19 at BK244 HB hHeld ⊢
    refine pure_ (i := 1) (N := some 20) (v := ?_) (a' := ?_) #[false, true, false, false, false, false, false, false, false, false, false, false, false, false] rfl rfl (any_of HT_.out (by kernel_rfl)) (fun _ _ _ h => h) (Or.inl ⟨by rfl, ?_⟩) ?_ ?_
    rotate_left
    ·intro w'
     go_simp
     with_reducible rfl
    rotate_left
    ·simp only [Act.put, zsi, zcz, zcs, i64_w, i32_w]
     rfl
    refine take_ (i := 0) (N := some 19) (v := ?_) (a' := ?_) #[true, true, false, false, false, false, false, false, false, false, false, false, false, false] rfl rfl (take_ofW HT_.out HW_.out (by kernel_rfl)) (fun _ _ _ h => h) (Or.inl ⟨by rfl, ?_⟩) hHeld ?_ ?_
    rotate_left
    ·rintro w' ⟨s0, s1⟩
     go_simp
     with_reducible rfl
    rotate_left
    ·simp only [Act.put, zsi, zcz, zcs, i64_w, i32_w]
     rfl
    refine take_ (i := 3) (N := some 22) (v := ?_) (a' := ?_) #[true, true, false, true, false, false, false, false, false, false, false, false, false, false] rfl rfl (take_ofW HT_.out HW_.out (by kernel_rfl)) (fun _ _ _ h => h) (Or.inl ⟨by rfl, ?_⟩) hHeld ?_ ?_
    rotate_left
    ·rintro w' ⟨s0, s1⟩
     go_simp
     with_reducible rfl
    rotate_left
    ·simp only [Act.put, zsi, zcz, zcs, i64_w, i32_w]
     rfl
    refine one_ (i := 2) (N := some 21) #[true, true, true, true, false, false, false, false, false, false, false, false, false, false] rfl rfl (one_of HT_.out (by kernel_rfl)) (by decide) (fun K hK => ?_)
    refine goes_ Try.func40 (by kernel_rfl) rfl #[.agg #[.int .i64 a0_0, .int .i64 a0_1], .int .u64 a2] (by rfl) rfl rfl (by (try simp only [zmt, zmc, zmn]); first | done | rfl) ?_
    with_reducible refine (ff_size.calls a0_0 a0_1 a2 t247 _ A9.out).mono ?_
    rintro e w20 ⟨rfl, hb⟩
    refine ⟨_, rfl, ?_⟩
    have n0_ := As0.mk (bkb (g := gb244) (o := .cells #[.int .i64 a0_0, .int .i64 a0_1] 43 (0, 0)) (by (with_reducible repeat (first | refine bkN ?_ _ | refine bkd ?_ | refine bka ?_ _)); exact BK244.out) hb)
    have n1_ := As0.mk (bst (by repeat (first | (with_reducible first | exact HB.out | apply bal | apply pwB_ | apply bd1 | refine bse ?_ GE244.out) | exact HB.out)) hb)
    clear BK244
    clear HB
    have BK244 := n0_
    have HB := n1_
    clear n0_ n1_
    (try clear hb)
    (try clear hb2)
    (try clear hk)
    (try clear hi)
    refine hK.out _ _ ⟨(bce BK244.out 0).trans rfl, (bce BK244.out 1).trans rfl⟩ (fun hHeld => ?_)
    clear hK K
    refine norm_ (a' := ?_) ?_ ?_
    rotate_left
    ·show Act.put _ (some 21) _ = _
     simp only [Act.put, zsi, zcz, zcs, i64_w, i32_w]
     rfl
    refine one_ (i := 4) (N := some 23) #[true, true, true, true, true, false, false, false, false, false, false, false, false, false] rfl rfl (one_of HT_.out (by kernel_rfl)) (by decide) (fun K hK => ?_)
    refine goes_ Try.func50 (by kernel_rfl) rfl #[.agg #[.int .i64 a0_0, .int .i64 a0_1]] (by rfl) rfl rfl (by (try simp only [zmt, zmc, zmn]); first | done | rfl) ?_
    with_reducible refine (ff_infinity.calls a0_0 a0_1 t248 _ A10.out).mono ?_
    rintro e w21 ⟨rfl, hb⟩
    refine ⟨_, rfl, ?_⟩
    have n0_ := As0.mk (bkb (g := gb244) (o := .cells #[.int .i64 a0_0, .int .i64 a0_1] 43 (0, 0)) (by (with_reducible repeat (first | refine bkN ?_ _ | refine bkd ?_ | refine bka ?_ _)); exact BK244.out) hb)
    have n1_ := As0.mk (bst (by repeat (first | (with_reducible first | exact HB.out | apply bal | apply pwB_ | apply bd1 | refine bse ?_ GE244.out) | exact HB.out)) hb)
    clear BK244
    clear HB
    have BK244 := n0_
    have HB := n1_
    clear n0_ n1_
    (try clear hb)
    (try clear hb2)
    (try clear hk)
    (try clear hi)
    refine hK.out _ _ ⟨(bce BK244.out 0).trans rfl, (bce BK244.out 1).trans rfl⟩ (fun hHeld => ?_)
    clear hK K
    refine norm_ (a' := ?_) ?_ ?_
    rotate_left
    ·show Act.put _ (some 23) _ = _
     simp only [Act.put, zsi, zcz, zcs, i64_w, i32_w]
     rfl
    refine pure_ (i := 5) (N := some 24) (v := ?_) (a' := ?_) #[true, true, true, true, true, true, false, false, false, false, false, false, false, false] rfl rfl (any_of HT_.out (by kernel_rfl)) (fun _ _ _ h => h) (Or.inl ⟨by rfl, ?_⟩) ?_ ?_
    rotate_left
    ·intro w'
     go_simp
     with_reducible rfl
    rotate_left
    ·simp only [Act.put, zsi, zcz, zcs, i64_w, i32_w]
     rfl
    refine pure_ (i := 6) (N := some 25) (v := ?_) (a' := ?_) #[true, true, true, true, true, true, true, false, false, false, false, false, false, false] rfl rfl (any_of HT_.out (by kernel_rfl)) (fun _ _ _ h => h) (Or.inl ⟨by rfl, ?_⟩) ?_ ?_
    rotate_left
    ·intro w'
     go_simp
     with_reducible rfl
    rotate_left
    ·simp only [Act.put, zsi, zcz, zcs, i64_w, i32_w]
     rfl
    refine pure_ (i := 7) (N := some 26) (v := ?_) (a' := ?_) #[true, true, true, true, true, true, true, true, false, false, false, false, false, false] rfl rfl (any_of HT_.out (by kernel_rfl)) (fun _ _ _ h => h) (Or.inl ⟨by rfl, ?_⟩) ?_ ?_
    rotate_left
    ·intro w'
     go_simp
     with_reducible rfl
    rotate_left
    ·simp only [Act.put, zsi, zcz, zcs, i64_w, i32_w]
     rfl
    refine pure_ (i := 8) (N := some 27) (v := ?_) (a' := ?_) #[true, true, true, true, true, true, true, true, true, false, false, false, false, false] rfl rfl (any_of HT_.out (by kernel_rfl)) (fun _ _ _ h => h) (Or.inl ⟨by rfl, ?_⟩) ?_ ?_
    rotate_left
    ·intro w'
     go_simp
     with_reducible rfl
    rotate_left
    ·simp only [Act.put, zsi, zcz, zcs, i64_w, i32_w]
     rfl
    refine pure_ (i := 9) (N := some 28) (v := ?_) (a' := ?_) #[true, true, true, true, true, true, true, true, true, true, false, false, false, false] rfl rfl (any_of HT_.out (by kernel_rfl)) (fun _ _ _ h => h) (Or.inl ⟨by rfl, ?_⟩) ?_ ?_
    rotate_left
    ·intro w'
     go_simp
     with_reducible rfl
    rotate_left
    ·simp only [Act.put, zsi, zcz, zcs, i64_w, i32_w]
     rfl
    refine pure_ (i := 10) (N := some 29) (v := ?_) (a' := ?_) #[true, true, true, true, true, true, true, true, true, true, true, false, false, false] rfl rfl (any_of HT_.out (by kernel_rfl)) (fun _ _ _ h => h) (Or.inl ⟨by rfl, ?_⟩) ?_ ?_
    rotate_left
    ·intro w'
     go_simp
     with_reducible rfl
    rotate_left
    ·simp only [Act.put, zsi, zcz, zcs, i64_w, i32_w]
     rfl
    refine pure_ (i := 11) (N := some 30) (v := ?_) (a' := ?_) #[true, true, true, true, true, true, true, true, true, true, true, true, false, false] rfl rfl (any_of HT_.out (by kernel_rfl)) (fun _ _ _ h => h) (Or.inl ⟨by rfl, ?_⟩) ?_ ?_
    rotate_left
    ·intro w'
     go_simp
     with_reducible rfl
    rotate_left
    ·simp only [Act.put, zsi, zcz, zcs, i64_w, i32_w]
     rfl
    refine pure_ (i := 12) (N := some 31) (v := ?_) (a' := ?_) #[true, true, true, true, true, true, true, true, true, true, true, true, true, false] rfl rfl (any_of HT_.out (by kernel_rfl)) (fun _ _ _ h => h) (Or.inl ⟨by rfl, ?_⟩) ?_ ?_
    rotate_left
    ·intro w'
     go_simp
     with_reducible rfl
    rotate_left
    ·simp only [Act.put, zsi, zcz, zcs, i64_w, i32_w]
     rfl
    refine pure_ (i := 13) (N := some 32) (v := ?_) (a' := ?_) #[true, true, true, true, true, true, true, true, true, true, true, true, true, true] rfl rfl (any_of HT_.out (by kernel_rfl)) (fun _ _ _ h => h) (Or.inl ⟨by rfl, ?_⟩) ?_ ?_
    rotate_left
    ·intro w'
     go_simp
     with_reducible rfl
    rotate_left
    ·simp only [Act.put, zsi, zcz, zcs, i64_w, i32_w]
     rfl
    refine done_ (done_of HT_.out (by kernel_rfl)) ?_
    try go_wp2
    go_meet
    case rel => exact ⟨_, ((t245 == 0)), (by first | rfl | (simp; done) | (simp [*]; done)), H', ⟨by first | omega | exact Nat.le_refl _⟩, ⟨by (with_reducible repeat (first | refine bkN ?_ _ | refine bkd ?_ | refine bka ?_ _)); exact BK244.out⟩, ⟨by repeat (first | (with_reducible first | exact HB.out | apply bal | apply pwB_ | apply bd1 | refine bse ?_ GE244.out) | exact HB.out)⟩⟩
 case rest =>
  clear HC5
  try clear c1
  try clear p2
  try clear c4
  try clear c5
  try clear c11
  try clear c11b0
  try clear c15
  try clear c15b0
  try clear hcz7_0
  try clear hcz7_1
  try clear hfz7_0
  try clear hfz7_1
  obtain ⟨kq, x32_4, rfl, HA, HJ4, BK244, HB⟩ := hcut
  cases kq with
  | zero => exact absurd HA.out (by simp [ff_whole.j0])
  | succ kj4 =>
   have H := HA.out
   clear HA
   simp only [ff_whole.j0] at H
   by_cases c22 : x32_4 = true
   ·subst c22
    have H1 : (some a2) = some r := by rw [if_pos rfl] at H; exact H
    clear H
    have H := H1
    clear H1
    obtain rfl := Option.some.inj H
    go_wp2
    go_ret
    exact ⟨by first | rfl | (simp [*] <;> rfl), by repeat (first | (with_reducible first | exact HB.out | apply bal | apply pwB_ | apply bd1 | refine bse ?_ GE244.out) | exact HB.out)⟩
   ·replace c22 := Bool.eq_false_iff.mpr c22
    subst c22
    have H1 : (if 0 ≤ (IntKind.u64.wrap (mn (wrap64 (-t246)) 63)) then (if 0 ≤ (IntKind.u64.wrap (wrap64 ((mn (wrap64 (-t246)) 63) - 1))) then (if a1 = 4 then (if (Go.bits .and .u64 t245 (IntKind.u64.wrap ((shl .u64 1 (IntKind.u64.wrap (mn (wrap64 (-t246)) 63))) - 1))) > 0 then ((ff_neg.f a0_0 a0_1 a2).bind fun t249 => (ff_whole.j1 kj4 a2 (shr .u64 t245 (IntKind.u64.wrap (mn (wrap64 (-t246)) 63))) (!t249) a0_0 a0_1)) else (ff_whole.j1 kj4 a2 (shr .u64 t245 (IntKind.u64.wrap (mn (wrap64 (-t246)) 63))) false a0_0 a0_1)) else (if a1 = 5 then (if (Go.bits .and .u64 t245 (IntKind.u64.wrap ((shl .u64 1 (IntKind.u64.wrap (mn (wrap64 (-t246)) 63))) - 1))) > 0 then ((ff_neg.f a0_0 a0_1 a2).bind fun t250 => (ff_whole.j1 kj4 a2 (shr .u64 t245 (IntKind.u64.wrap (mn (wrap64 (-t246)) 63))) t250 a0_0 a0_1)) else (ff_whole.j1 kj4 a2 (shr .u64 t245 (IntKind.u64.wrap (mn (wrap64 (-t246)) 63))) false a0_0 a0_1)) else (if a1 = 7 then (if (Go.bits .and .u64 t245 (IntKind.u64.wrap ((shl .u64 1 (IntKind.u64.wrap (mn (wrap64 (-t246)) 63))) - 1))) > (shl .u64 1 (IntKind.u64.wrap (wrap64 ((mn (wrap64 (-t246)) 63) - 1)))) then (ff_whole.j1 kj4 a2 (shr .u64 t245 (IntKind.u64.wrap (mn (wrap64 (-t246)) 63))) true a0_0 a0_1) else (if (Go.bits .and .u64 t245 (IntKind.u64.wrap ((shl .u64 1 (IntKind.u64.wrap (mn (wrap64 (-t246)) 63))) - 1))) = (shl .u64 1 (IntKind.u64.wrap (wrap64 ((mn (wrap64 (-t246)) 63) - 1)))) then (ff_whole.j1 kj4 a2 (shr .u64 t245 (IntKind.u64.wrap (mn (wrap64 (-t246)) 63))) ((Go.bits .and .u64 (shr .u64 t245 (IntKind.u64.wrap (mn (wrap64 (-t246)) 63))) 1) == 1) a0_0 a0_1) else (ff_whole.j1 kj4 a2 (shr .u64 t245 (IntKind.u64.wrap (mn (wrap64 (-t246)) 63))) false a0_0 a0_1))) else (ff_whole.j1 kj4 a2 (shr .u64 t245 (IntKind.u64.wrap (mn (wrap64 (-t246)) 63))) false a0_0 a0_1)))) else (none)) else (none)) = some r := by rw [if_neg (show ¬ (false = true) by decide)] at H; exact H
    clear H
    have H := H1
    clear H1
    obtain ⟨ji23, hji23⟩ : ∃ j_ : Int, (mn (wrap64 (-t246)) 63) = j_ := ⟨_, rfl⟩
    replace H : (if 0 ≤ (IntKind.u64.wrap (ji23)) then (if 0 ≤ (IntKind.u64.wrap (wrap64 ((ji23) - 1))) then (if a1 = 4 then (if (Go.bits .and .u64 t245 (IntKind.u64.wrap ((shl .u64 1 (IntKind.u64.wrap (ji23))) - 1))) > 0 then ((ff_neg.f a0_0 a0_1 a2).bind fun t249 => (ff_whole.j1 kj4 a2 (shr .u64 t245 (IntKind.u64.wrap (ji23))) (!t249) a0_0 a0_1)) else (ff_whole.j1 kj4 a2 (shr .u64 t245 (IntKind.u64.wrap (ji23))) false a0_0 a0_1)) else (if a1 = 5 then (if (Go.bits .and .u64 t245 (IntKind.u64.wrap ((shl .u64 1 (IntKind.u64.wrap (ji23))) - 1))) > 0 then ((ff_neg.f a0_0 a0_1 a2).bind fun t250 => (ff_whole.j1 kj4 a2 (shr .u64 t245 (IntKind.u64.wrap (ji23))) t250 a0_0 a0_1)) else (ff_whole.j1 kj4 a2 (shr .u64 t245 (IntKind.u64.wrap (ji23))) false a0_0 a0_1)) else (if a1 = 7 then (if (Go.bits .and .u64 t245 (IntKind.u64.wrap ((shl .u64 1 (IntKind.u64.wrap (ji23))) - 1))) > (shl .u64 1 (IntKind.u64.wrap (wrap64 ((ji23) - 1)))) then (ff_whole.j1 kj4 a2 (shr .u64 t245 (IntKind.u64.wrap (ji23))) true a0_0 a0_1) else (if (Go.bits .and .u64 t245 (IntKind.u64.wrap ((shl .u64 1 (IntKind.u64.wrap (ji23))) - 1))) = (shl .u64 1 (IntKind.u64.wrap (wrap64 ((ji23) - 1)))) then (ff_whole.j1 kj4 a2 (shr .u64 t245 (IntKind.u64.wrap (ji23))) ((Go.bits .and .u64 (shr .u64 t245 (IntKind.u64.wrap (ji23))) 1) == 1) a0_0 a0_1) else (ff_whole.j1 kj4 a2 (shr .u64 t245 (IntKind.u64.wrap (ji23))) false a0_0 a0_1))) else (ff_whole.j1 kj4 a2 (shr .u64 t245 (IntKind.u64.wrap (ji23))) false a0_0 a0_1)))) else (none)) else (none)) = some r := by first | (rw [hji23] at H; exact H) | (simp only [hji23] at H ⊢; exact H)
    have hji23_ : (if 63 < (wrap64 (-t246)) then 63 else (wrap64 (-t246))) = ji23 := hji23
    obtain ⟨ji24, hji24⟩ : ∃ j_ : Int, (IntKind.u64.wrap (ji23)) = j_ := ⟨_, rfl⟩
    replace H : (if 0 ≤ (ji24) then (if 0 ≤ (IntKind.u64.wrap (wrap64 ((ji23) - 1))) then (if a1 = 4 then (if (Go.bits .and .u64 t245 (IntKind.u64.wrap ((shl .u64 1 (ji24)) - 1))) > 0 then ((ff_neg.f a0_0 a0_1 a2).bind fun t249 => (ff_whole.j1 kj4 a2 (shr .u64 t245 (ji24)) (!t249) a0_0 a0_1)) else (ff_whole.j1 kj4 a2 (shr .u64 t245 (ji24)) false a0_0 a0_1)) else (if a1 = 5 then (if (Go.bits .and .u64 t245 (IntKind.u64.wrap ((shl .u64 1 (ji24)) - 1))) > 0 then ((ff_neg.f a0_0 a0_1 a2).bind fun t250 => (ff_whole.j1 kj4 a2 (shr .u64 t245 (ji24)) t250 a0_0 a0_1)) else (ff_whole.j1 kj4 a2 (shr .u64 t245 (ji24)) false a0_0 a0_1)) else (if a1 = 7 then (if (Go.bits .and .u64 t245 (IntKind.u64.wrap ((shl .u64 1 (ji24)) - 1))) > (shl .u64 1 (IntKind.u64.wrap (wrap64 ((ji23) - 1)))) then (ff_whole.j1 kj4 a2 (shr .u64 t245 (ji24)) true a0_0 a0_1) else (if (Go.bits .and .u64 t245 (IntKind.u64.wrap ((shl .u64 1 (ji24)) - 1))) = (shl .u64 1 (IntKind.u64.wrap (wrap64 ((ji23) - 1)))) then (ff_whole.j1 kj4 a2 (shr .u64 t245 (ji24)) ((Go.bits .and .u64 (shr .u64 t245 (ji24)) 1) == 1) a0_0 a0_1) else (ff_whole.j1 kj4 a2 (shr .u64 t245 (ji24)) false a0_0 a0_1))) else (ff_whole.j1 kj4 a2 (shr .u64 t245 (ji24)) false a0_0 a0_1)))) else (none)) else (none)) = some r := by first | (rw [hji24] at H; exact H) | (simp only [hji24] at H ⊢; exact H)
    by_cases c25 : 0 ≤ (ji24)
    ·rw [if_pos c25] at H
     have c25b0 := eq_true c25
     have c25b1 : decide (0 ≤ (ji24)) = true := decide_eq_true c25
     clear c25
     obtain ⟨ji26, hji26⟩ : ∃ j_ : Int, (shl .u64 1 (ji24)) = j_ := ⟨_, rfl⟩
     replace H : (if 0 ≤ (IntKind.u64.wrap (wrap64 ((ji23) - 1))) then (if a1 = 4 then (if (Go.bits .and .u64 t245 (IntKind.u64.wrap ((ji26) - 1))) > 0 then ((ff_neg.f a0_0 a0_1 a2).bind fun t249 => (ff_whole.j1 kj4 a2 (shr .u64 t245 (ji24)) (!t249) a0_0 a0_1)) else (ff_whole.j1 kj4 a2 (shr .u64 t245 (ji24)) false a0_0 a0_1)) else (if a1 = 5 then (if (Go.bits .and .u64 t245 (IntKind.u64.wrap ((ji26) - 1))) > 0 then ((ff_neg.f a0_0 a0_1 a2).bind fun t250 => (ff_whole.j1 kj4 a2 (shr .u64 t245 (ji24)) t250 a0_0 a0_1)) else (ff_whole.j1 kj4 a2 (shr .u64 t245 (ji24)) false a0_0 a0_1)) else (if a1 = 7 then (if (Go.bits .and .u64 t245 (IntKind.u64.wrap ((ji26) - 1))) > (shl .u64 1 (IntKind.u64.wrap (wrap64 ((ji23) - 1)))) then (ff_whole.j1 kj4 a2 (shr .u64 t245 (ji24)) true a0_0 a0_1) else (if (Go.bits .and .u64 t245 (IntKind.u64.wrap ((ji26) - 1))) = (shl .u64 1 (IntKind.u64.wrap (wrap64 ((ji23) - 1)))) then (ff_whole.j1 kj4 a2 (shr .u64 t245 (ji24)) ((Go.bits .and .u64 (shr .u64 t245 (ji24)) 1) == 1) a0_0 a0_1) else (ff_whole.j1 kj4 a2 (shr .u64 t245 (ji24)) false a0_0 a0_1))) else (ff_whole.j1 kj4 a2 (shr .u64 t245 (ji24)) false a0_0 a0_1)))) else (none)) = some r := by first | (rw [hji26] at H; exact H) | (simp only [hji26] at H ⊢; exact H)
     have hji26_ : (IntKind.u64.wrap (1 * 2 ^ min (ji24).toNat 64)) = ji26 := hji26
     have hji26z : (ji24) ≤ 64 → (IntKind.u64.wrap (1 * 2 ^ (ji24).toNat)) = ji26 := shl_small hji26
     have hji26u : (IntKind.u64.wrap (2 ^ min (ji24).toNat 64)) = ji26 := by have h_ := hji26_; rw [Int.one_mul] at h_; exact h_
     have hji26v : (ji24) ≤ 64 → (IntKind.u64.wrap (2 ^ (ji24).toNat)) = ji26 := fun hle_ => by have h_ := hji26z hle_; rw [Int.one_mul] at h_; exact h_
     obtain ⟨ji27, hji27⟩ : ∃ j_ : Int, (IntKind.u64.wrap (wrap64 ((ji23) - 1))) = j_ := ⟨_, rfl⟩
     replace H : (if 0 ≤ (ji27) then (if a1 = 4 then (if (Go.bits .and .u64 t245 (IntKind.u64.wrap ((ji26) - 1))) > 0 then ((ff_neg.f a0_0 a0_1 a2).bind fun t249 => (ff_whole.j1 kj4 a2 (shr .u64 t245 (ji24)) (!t249) a0_0 a0_1)) else (ff_whole.j1 kj4 a2 (shr .u64 t245 (ji24)) false a0_0 a0_1)) else (if a1 = 5 then (if (Go.bits .and .u64 t245 (IntKind.u64.wrap ((ji26) - 1))) > 0 then ((ff_neg.f a0_0 a0_1 a2).bind fun t250 => (ff_whole.j1 kj4 a2 (shr .u64 t245 (ji24)) t250 a0_0 a0_1)) else (ff_whole.j1 kj4 a2 (shr .u64 t245 (ji24)) false a0_0 a0_1)) else (if a1 = 7 then (if (Go.bits .and .u64 t245 (IntKind.u64.wrap ((ji26) - 1))) > (shl .u64 1 (ji27)) then (ff_whole.j1 kj4 a2 (shr .u64 t245 (ji24)) true a0_0 a0_1) else (if (Go.bits .and .u64 t245 (IntKind.u64.wrap ((ji26) - 1))) = (shl .u64 1 (ji27)) then (ff_whole.j1 kj4 a2 (shr .u64 t245 (ji24)) ((Go.bits .and .u64 (shr .u64 t245 (ji24)) 1) == 1) a0_0 a0_1) else (ff_whole.j1 kj4 a2 (shr .u64 t245 (ji24)) false a0_0 a0_1))) else (ff_whole.j1 kj4 a2 (shr .u64 t245 (ji24)) false a0_0 a0_1)))) else (none)) = some r := by first | (rw [hji27] at H; exact H) | (simp only [hji27] at H ⊢; exact H)
     by_cases c28 : 0 ≤ (ji27)
     ·rw [if_pos c28] at H
      have c28b0 := eq_true c28
      have c28b1 : decide (0 ≤ (ji27)) = true := decide_eq_true c28
      clear c28
      obtain ⟨ji29, hji29⟩ : ∃ j_ : Int, (shl .u64 1 (ji27)) = j_ := ⟨_, rfl⟩
      replace H : (if a1 = 4 then (if (Go.bits .and .u64 t245 (IntKind.u64.wrap ((ji26) - 1))) > 0 then ((ff_neg.f a0_0 a0_1 a2).bind fun t249 => (ff_whole.j1 kj4 a2 (shr .u64 t245 (ji24)) (!t249) a0_0 a0_1)) else (ff_whole.j1 kj4 a2 (shr .u64 t245 (ji24)) false a0_0 a0_1)) else (if a1 = 5 then (if (Go.bits .and .u64 t245 (IntKind.u64.wrap ((ji26) - 1))) > 0 then ((ff_neg.f a0_0 a0_1 a2).bind fun t250 => (ff_whole.j1 kj4 a2 (shr .u64 t245 (ji24)) t250 a0_0 a0_1)) else (ff_whole.j1 kj4 a2 (shr .u64 t245 (ji24)) false a0_0 a0_1)) else (if a1 = 7 then (if (Go.bits .and .u64 t245 (IntKind.u64.wrap ((ji26) - 1))) > (ji29) then (ff_whole.j1 kj4 a2 (shr .u64 t245 (ji24)) true a0_0 a0_1) else (if (Go.bits .and .u64 t245 (IntKind.u64.wrap ((ji26) - 1))) = (ji29) then (ff_whole.j1 kj4 a2 (shr .u64 t245 (ji24)) ((Go.bits .and .u64 (shr .u64 t245 (ji24)) 1) == 1) a0_0 a0_1) else (ff_whole.j1 kj4 a2 (shr .u64 t245 (ji24)) false a0_0 a0_1))) else (ff_whole.j1 kj4 a2 (shr .u64 t245 (ji24)) false a0_0 a0_1)))) = some r := by first | (rw [hji29] at H; exact H) | (simp only [hji29] at H ⊢; exact H)
      have hji29_ : (IntKind.u64.wrap (1 * 2 ^ min (ji27).toNat 64)) = ji29 := hji29
      have hji29z : (ji27) ≤ 64 → (IntKind.u64.wrap (1 * 2 ^ (ji27).toNat)) = ji29 := shl_small hji29
      have hji29u : (IntKind.u64.wrap (2 ^ min (ji27).toNat 64)) = ji29 := by have h_ := hji29_; rw [Int.one_mul] at h_; exact h_
      have hji29v : (ji27) ≤ 64 → (IntKind.u64.wrap (2 ^ (ji27).toNat)) = ji29 := fun hle_ => by have h_ := hji29z hle_; rw [Int.one_mul] at h_; exact h_
      have c30b0 := eq_true (of_decide_eq_true (by first | (with_reducible assumption) | assumption) : 0 ≤ (ji24))
      obtain ⟨ji31, hji31⟩ : ∃ j_ : Int, (shr .u64 t245 (ji24)) = j_ := ⟨_, rfl⟩
      replace H : (if a1 = 4 then (if (Go.bits .and .u64 t245 (IntKind.u64.wrap ((ji26) - 1))) > 0 then ((ff_neg.f a0_0 a0_1 a2).bind fun t249 => (ff_whole.j1 kj4 a2 ji31 (!t249) a0_0 a0_1)) else (ff_whole.j1 kj4 a2 ji31 false a0_0 a0_1)) else (if a1 = 5 then (if (Go.bits .and .u64 t245 (IntKind.u64.wrap ((ji26) - 1))) > 0 then ((ff_neg.f a0_0 a0_1 a2).bind fun t250 => (ff_whole.j1 kj4 a2 ji31 t250 a0_0 a0_1)) else (ff_whole.j1 kj4 a2 ji31 false a0_0 a0_1)) else (if a1 = 7 then (if (Go.bits .and .u64 t245 (IntKind.u64.wrap ((ji26) - 1))) > (ji29) then (ff_whole.j1 kj4 a2 ji31 true a0_0 a0_1) else (if (Go.bits .and .u64 t245 (IntKind.u64.wrap ((ji26) - 1))) = (ji29) then (ff_whole.j1 kj4 a2 ji31 ((Go.bits .and .u64 (ji31) 1) == 1) a0_0 a0_1) else (ff_whole.j1 kj4 a2 ji31 false a0_0 a0_1))) else (ff_whole.j1 kj4 a2 ji31 false a0_0 a0_1)))) = some r := by first | (rw [hji31] at H; exact H) | (simp only [hji31] at H ⊢; exact H)
      have hji31_ : (t245 / 2 ^ min (ji24).toNat 64) = ji31 := hji31
      have hji31z : (ji24) ≤ 64 → (t245 / 2 ^ (ji24).toNat) = ji31 := shr_small hji31
      have HC32 := As0.mk H
      clear H
      go_upto_block 0 with (fail)
      go_cut [12] (fun v12 wc => ∃ (kq : Nat) (x12_31 : Bool), v12 = .bool x12_31 ∧ As0 (ff_whole.j1 kq a2 ji31 x12_31 a0_0 a0_1 = some r) ∧ As0 (kq ≤ kj4) ∧ As0 (wc.heap[gb244]? = some (.cells #[.int .i64 a0_0, .int .i64 a0_1] 43 (0, 0))) ∧ As0 (Below w.heap.size w wc))
      case first =>
       have H := HC32.out
       clear HC32
       by_cases c33 : a1 = 4
       ·rw [if_pos c33] at H
        have c33b0 : (a1 == 4) = true := beq_iff_eq.mpr c33
        have c33b1 : (a1 != 4) = false := bne_eq_false_iff_eq.mpr c33
        clear c33
        (first | rw [c33b0] | (simp only [i64_w, i32_w]; rw [c33b0]) | skip)
        by_cases c34 : (Go.bits .and .u64 t245 (IntKind.u64.wrap ((ji26) - 1))) > 0
        ·rw [if_pos c34] at H
         have c34b0 : decide (0 < (Go.bits .and .u64 t245 (IntKind.u64.wrap ((ji26) - 1)))) = true := decide_eq_true c34
         clear c34
         replace H := zob H
         obtain ⟨t249, A350, H⟩ := H
         replace H : (ff_whole.j1 kj4 a2 ji31 (!t249) a0_0 a0_1) = some r := H
         have A35 := As0.mk A350
         clear A350
         have H' := As0.mk H
         clear H
         have hcz36_0 : wc.cell? ⟨gb244, 0, none⟩ = some (.int .i64 a0_0) := (bce BK244.out 0).trans rfl
         have hcz36_1 : wc.cell? ⟨gb244, 1, none⟩ = some (.int .i64 a0_1) := (bce BK244.out 1).trans rfl
         have hfz36_0 := bkf BK244.out 0
         have hfz36_1 := bkf BK244.out 1
         go_wp2_with (first | (go_at_call 39; (with_reducible refine (ff_neg.calls a0_0 a0_1 a2 t249 _ A35.out).mono ?_); rintro e w37 ⟨rfl, hb⟩; have n0_ := As0.mk (bkb (g := gb244) (o := .cells #[.int .i64 a0_0, .int .i64 a0_1] 43 (0, 0)) (by (with_reducible repeat (first | refine bkN ?_ _ | refine bkd ?_ | refine bka ?_ _)); exact BK244.out) hb); have n1_ := As0.mk (bst (by repeat (first | (with_reducible first | exact HB.out | apply bal | apply pwB_ | apply bd1 | refine bse ?_ GE244.out) | exact HB.out)) hb); clear BK244; clear HB; have BK244 := n0_; have HB := n1_; clear n0_ n1_; (try clear hb); (try clear hb2); (try clear hk); (try clear hi)))
         go_meet
         case rel => exact ⟨_, (!t249), (by first | rfl | (simp; done) | (simp [*]; done)), H', ⟨by have := HJ4.out; first | omega | exact Nat.le_refl _⟩, ⟨by (with_reducible repeat (first | refine bkN ?_ _ | refine bkd ?_ | refine bka ?_ _)); exact BK244.out⟩, ⟨by repeat (first | (with_reducible first | exact HB.out | apply bal | apply pwB_ | apply bd1 | refine bse ?_ GE244.out) | exact HB.out)⟩⟩
        ·rw [if_neg c34] at H
         have c34b0 : decide (0 < (Go.bits .and .u64 t245 (IntKind.u64.wrap ((ji26) - 1)))) = false := decide_eq_false c34
         clear c34
         have H' := As0.mk H
         clear H
         go_wp2
         go_meet
         case rel => exact ⟨_, (false), (by first | rfl | (simp; done) | (simp [*]; done)), H', ⟨by have := HJ4.out; first | omega | exact Nat.le_refl _⟩, ⟨by (with_reducible repeat (first | refine bkN ?_ _ | refine bkd ?_ | refine bka ?_ _)); exact BK244.out⟩, ⟨by repeat (first | (with_reducible first | exact HB.out | apply bal | apply pwB_ | apply bd1 | refine bse ?_ GE244.out) | exact HB.out)⟩⟩
       ·rw [if_neg c33] at H
        have c33b0 : (a1 == 4) = false := beq_eq_false_iff_ne.mpr c33
        have c33b1 : (a1 != 4) = true := bne_iff_ne.mpr c33
        (first | rw [c33b0] | (simp only [i64_w, i32_w]; rw [c33b0]) | skip)
        by_cases c38 : a1 = 5
        ·rw [if_pos c38] at H
         have c38b0 : (a1 == 5) = true := beq_iff_eq.mpr c38
         have c38b1 : (a1 != 5) = false := bne_eq_false_iff_eq.mpr c38
         clear c38
         by_cases c39 : (Go.bits .and .u64 t245 (IntKind.u64.wrap ((ji26) - 1))) > 0
         ·rw [if_pos c39] at H
          have c39b0 : decide (0 < (Go.bits .and .u64 t245 (IntKind.u64.wrap ((ji26) - 1)))) = true := decide_eq_true c39
          clear c39
          replace H := zob H
          obtain ⟨t250, A400, H⟩ := H
          replace H : (ff_whole.j1 kj4 a2 ji31 t250 a0_0 a0_1) = some r := H
          have A40 := As0.mk A400
          clear A400
          have H' := As0.mk H
          clear H
          have hcz41_0 : wc.cell? ⟨gb244, 0, none⟩ = some (.int .i64 a0_0) := (bce BK244.out 0).trans rfl
          have hcz41_1 : wc.cell? ⟨gb244, 1, none⟩ = some (.int .i64 a0_1) := (bce BK244.out 1).trans rfl
          have hfz41_0 := bkf BK244.out 0
          have hfz41_1 := bkf BK244.out 1
          go_wp2_with (first | (go_at_call 39; (with_reducible refine (ff_neg.calls a0_0 a0_1 a2 t250 _ A40.out).mono ?_); rintro e w42 ⟨rfl, hb⟩; have n0_ := As0.mk (bkb (g := gb244) (o := .cells #[.int .i64 a0_0, .int .i64 a0_1] 43 (0, 0)) (by (with_reducible repeat (first | refine bkN ?_ _ | refine bkd ?_ | refine bka ?_ _)); exact BK244.out) hb); have n1_ := As0.mk (bst (by repeat (first | (with_reducible first | exact HB.out | apply bal | apply pwB_ | apply bd1 | refine bse ?_ GE244.out) | exact HB.out)) hb); clear BK244; clear HB; have BK244 := n0_; have HB := n1_; clear n0_ n1_; (try clear hb); (try clear hb2); (try clear hk); (try clear hi)))
          go_meet
          case rel => exact ⟨_, (t250), (by first | rfl | (simp; done) | (simp [*]; done)), H', ⟨by have := HJ4.out; first | omega | exact Nat.le_refl _⟩, ⟨by (with_reducible repeat (first | refine bkN ?_ _ | refine bkd ?_ | refine bka ?_ _)); exact BK244.out⟩, ⟨by repeat (first | (with_reducible first | exact HB.out | apply bal | apply pwB_ | apply bd1 | refine bse ?_ GE244.out) | exact HB.out)⟩⟩
         ·rw [if_neg c39] at H
          have c39b0 : decide (0 < (Go.bits .and .u64 t245 (IntKind.u64.wrap ((ji26) - 1)))) = false := decide_eq_false c39
          clear c39
          have H' := As0.mk H
          clear H
          go_wp2
          go_meet
          case rel => exact ⟨_, (false), (by first | rfl | (simp; done) | (simp [*]; done)), H', ⟨by have := HJ4.out; first | omega | exact Nat.le_refl _⟩, ⟨by (with_reducible repeat (first | refine bkN ?_ _ | refine bkd ?_ | refine bka ?_ _)); exact BK244.out⟩, ⟨by repeat (first | (with_reducible first | exact HB.out | apply bal | apply pwB_ | apply bd1 | refine bse ?_ GE244.out) | exact HB.out)⟩⟩
        ·rw [if_neg c38] at H
         have c38b0 : (a1 == 5) = false := beq_eq_false_iff_ne.mpr c38
         have c38b1 : (a1 != 5) = true := bne_iff_ne.mpr c38
         by_cases c43 : a1 = 7
         ·rw [if_pos c43] at H
          have c43b0 : (a1 == 7) = true := beq_iff_eq.mpr c43
          have c43b1 : (a1 != 7) = false := bne_eq_false_iff_eq.mpr c43
          clear c43
          by_cases c44 : (Go.bits .and .u64 t245 (IntKind.u64.wrap ((ji26) - 1))) > (ji29)
          ·rw [if_pos c44] at H
           have c44b0 : decide ((ji29) < (Go.bits .and .u64 t245 (IntKind.u64.wrap ((ji26) - 1)))) = true := decide_eq_true c44
           clear c44
           have H' := As0.mk H
           clear H
           go_wp2
           go_meet
           case rel => exact ⟨_, (true), (by first | rfl | (simp; done) | (simp [*]; done)), H', ⟨by have := HJ4.out; first | omega | exact Nat.le_refl _⟩, ⟨by (with_reducible repeat (first | refine bkN ?_ _ | refine bkd ?_ | refine bka ?_ _)); exact BK244.out⟩, ⟨by repeat (first | (with_reducible first | exact HB.out | apply bal | apply pwB_ | apply bd1 | refine bse ?_ GE244.out) | exact HB.out)⟩⟩
          ·rw [if_neg c44] at H
           have c44b0 : decide ((ji29) < (Go.bits .and .u64 t245 (IntKind.u64.wrap ((ji26) - 1)))) = false := decide_eq_false c44
           clear c44
           by_cases c45 : (Go.bits .and .u64 t245 (IntKind.u64.wrap ((ji26) - 1))) = (ji29)
           ·rw [if_pos c45] at H
            have c45b0 : ((Go.bits .and .u64 t245 (IntKind.u64.wrap ((ji26) - 1))) == (ji29)) = true := beq_iff_eq.mpr c45
            have c45b1 : ((Go.bits .and .u64 t245 (IntKind.u64.wrap ((ji26) - 1))) != (ji29)) = false := bne_eq_false_iff_eq.mpr c45
            clear c45
            have H' := As0.mk H
            clear H
            go_wp2
            go_meet
            case rel => exact ⟨_, (((Go.bits .and .u64 (ji31) 1) == 1)), (by first | rfl | (simp; done) | (simp only [← hji31] <;> (first | rfl | simp)) | (simp [*]; done)), H', ⟨by have := HJ4.out; first | omega | exact Nat.le_refl _⟩, ⟨by (with_reducible repeat (first | refine bkN ?_ _ | refine bkd ?_ | refine bka ?_ _)); exact BK244.out⟩, ⟨by repeat (first | (with_reducible first | exact HB.out | apply bal | apply pwB_ | apply bd1 | refine bse ?_ GE244.out) | exact HB.out)⟩⟩
           ·rw [if_neg c45] at H
            have c45b0 : ((Go.bits .and .u64 t245 (IntKind.u64.wrap ((ji26) - 1))) == (ji29)) = false := beq_eq_false_iff_ne.mpr c45
            have c45b1 : ((Go.bits .and .u64 t245 (IntKind.u64.wrap ((ji26) - 1))) != (ji29)) = true := bne_iff_ne.mpr c45
            have H' := As0.mk H
            clear H
            go_wp2
            go_meet
            case rel => exact ⟨_, (false), (by first | rfl | (simp; done) | (simp [*]; done)), H', ⟨by have := HJ4.out; first | omega | exact Nat.le_refl _⟩, ⟨by (with_reducible repeat (first | refine bkN ?_ _ | refine bkd ?_ | refine bka ?_ _)); exact BK244.out⟩, ⟨by repeat (first | (with_reducible first | exact HB.out | apply bal | apply pwB_ | apply bd1 | refine bse ?_ GE244.out) | exact HB.out)⟩⟩
         ·rw [if_neg c43] at H
          have c43b0 : (a1 == 7) = false := beq_eq_false_iff_ne.mpr c43
          have c43b1 : (a1 != 7) = true := bne_iff_ne.mpr c43
          have H' := As0.mk H
          clear H
          go_wp2
          go_meet
          case rel => exact ⟨_, (false), (by first | rfl | (simp; done) | (simp [*]; done)), H', ⟨by have := HJ4.out; first | omega | exact Nat.le_refl _⟩, ⟨by (with_reducible repeat (first | refine bkN ?_ _ | refine bkd ?_ | refine bka ?_ _)); exact BK244.out⟩, ⟨by repeat (first | (with_reducible first | exact HB.out | apply bal | apply pwB_ | apply bd1 | refine bse ?_ GE244.out) | exact HB.out)⟩⟩
      case rest =>
       clear HC32
       try clear c1
       try clear c2
       try clear p2
       try clear c3
       try clear c4
       try clear c5
       try clear p6
       try clear c11
       try clear c11b0
       try clear c15
       try clear c15b0
       try clear c22
       try clear c25
       try clear c25b0
       try clear c25b1
       try clear c28
       try clear c28b0
       try clear c28b1
       try clear c30
       try clear c30b0
       try clear c33
       try clear c33b0
       try clear c33b1
       try clear c34
       try clear c34b0
       try clear c38
       try clear c38b0
       try clear c38b1
       try clear c39
       try clear c39b0
       try clear c40
       try clear c43
       try clear c43b0
       try clear c43b1
       try clear c44
       try clear c44b0
       try clear c45
       try clear c45b0
       try clear c45b1
       try clear hcz36_0
       try clear hcz36_1
       try clear hcz41_0
       try clear hcz41_1
       try clear hcz7_0
       try clear hcz7_1
       try clear hfz36_0
       try clear hfz36_1
       try clear hfz41_0
       try clear hfz41_1
       try clear hfz7_0
       try clear hfz7_1
       try clear p2
       obtain ⟨kq, x12_31, rfl, HA, HJ31, BK244, HB⟩ := hcut
       cases kq with
       | zero => exact absurd HA.out (by simp [ff_whole.j1])
       | succ kj31 =>
        have H := HA.out
        clear HA
        simp only [ff_whole.j1] at H
        by_cases c46 : x12_31 = true
        ·subst c46
         have H1 : ((ff_neg.f a0_0 a0_1 a2).bind fun t251 => ((ff_round.f kj31 a0_0 a0_1 t251 (IntKind.u64.wrap (ji31 + 1)) 0 false).bind fun t252 => (some t252))) = some r := by rw [if_pos rfl] at H; exact H
         clear H
         have H := H1
         clear H1
         replace H := zob H
         obtain ⟨t251, A470, H⟩ := H
         replace H : ((ff_round.f kj31 a0_0 a0_1 t251 (IntKind.u64.wrap (ji31 + 1)) 0 false).bind fun t252 => (some t252)) = some r := H
         have A47 := As0.mk A470
         clear A470
         replace H := zob H
         obtain ⟨t252, A480, H⟩ := H
         replace H : (some t252) = some r := H
         have A48 := As0.mk A480
         clear A480
         obtain rfl := Option.some.inj H
         try go_wp2
         have n0_ := As0.mk (bkd BK244.out)
         have n1_ := As0.mk (bd1 HB.out)
         clear BK244
         clear HB
         have BK244 := n0_
         have HB := n1_
         clear n0_ n1_
         refine start_ (n := 7) (S := fun w' => w'.cell? ⟨gb244, 0, none⟩ = some (.int .i64 a0_0) ∧ w'.cell? ⟨gb244, 1, none⟩ = some (.int .i64 a0_1)) (ds := []) #[false, false, false, false, false, false, false] (by kernel_rfl) rfl rfl ⟨(bce BK244.out 0).trans rfl, (bce BK244.out 1).trans rfl⟩ (fun hHeld => ?_)
         generalize wc.drew = w49 at BK244 HB hHeld ⊢
         refine pure_ (i := 2) (N := some 91) (v := ?_) (a' := ?_) #[false, false, true, false, false, false, false] rfl rfl (by kernel_rfl) (fun _ _ _ h => h) (Or.inl ⟨by rfl, ?_⟩) ?_ ?_
         rotate_left
         ·intro w'
          go_simp
          with_reducible rfl
         rotate_left
         ·simp only [Act.put, zsi, zcz, zcs, i64_w, i32_w]
          rfl
         refine pure_ (i := 4) (N := some 93) (v := ?_) (a' := ?_) #[false, false, true, false, true, false, false] rfl rfl (by kernel_rfl) (fun _ _ _ h => h) (Or.inl ⟨by rfl, ?_⟩) ?_ ?_
         rotate_left
         ·intro w'
          go_simp
          with_reducible rfl
         rotate_left
         ·simp only [Act.put, zsi, zcz, zcs, i64_w, i32_w]
          rfl
         refine take_ (i := 0) (N := some 89) (v := ?_) (a' := ?_) #[true, false, true, false, true, false, false] rfl rfl (by kernel_rfl) (fun _ _ _ h => h) (Or.inl ⟨by rfl, ?_⟩) hHeld ?_ ?_
         rotate_left
         ·rintro w' ⟨s0, s1⟩
          go_simp
          with_reducible rfl
         rotate_left
         ·simp only [Act.put, zsi, zcz, zcs, i64_w, i32_w]
          rfl
         refine take_ (i := 1) (N := some 90) (v := ?_) (a' := ?_) #[true, true, true, false, true, false, false] rfl rfl (by kernel_rfl) (fun _ _ _ h => h) (Or.inl ⟨by rfl, ?_⟩) hHeld ?_ ?_
         rotate_left
         ·rintro w' ⟨s0, s1⟩
          go_simp
          with_reducible rfl
         rotate_left
         ·simp only [Act.put, zsi, zcz, zcs, i64_w, i32_w]
          rfl
         refine one_ (i := 3) (N := some 92) #[true, true, true, true, true, false, false] rfl rfl (by kernel_rfl) (by decide) (fun K hK => ?_)
         refine goes_ Try.func39 (by kernel_rfl) rfl #[.agg #[.int .i64 a0_0, .int .i64 a0_1], .int .u64 a2] (by rfl) rfl rfl (by (try simp only [zmt, zmc, zmn]); first | done | rfl) ?_
         with_reducible refine (ff_neg.calls a0_0 a0_1 a2 t251 _ A47.out).mono ?_
         rintro e w50 ⟨rfl, hb⟩
         refine ⟨_, rfl, ?_⟩
         have n0_ := As0.mk (bkb (g := gb244) (o := .cells #[.int .i64 a0_0, .int .i64 a0_1] 43 (0, 0)) (by (with_reducible repeat (first | refine bkN ?_ _ | refine bkd ?_ | refine bka ?_ _)); exact BK244.out) hb)
         have n1_ := As0.mk (bst (by repeat (first | (with_reducible first | exact HB.out | apply bal | apply pwB_ | apply bd1 | refine bse ?_ GE244.out) | exact HB.out)) hb)
         clear BK244
         clear HB
         have BK244 := n0_
         have HB := n1_
         clear n0_ n1_
         (try clear hb)
         (try clear hb2)
         (try clear hk)
         (try clear hi)
         refine hK.out _ _ ⟨(bce BK244.out 0).trans rfl, (bce BK244.out 1).trans rfl⟩ (fun hHeld => ?_)
         clear hK K
         refine norm_ (a' := ?_) ?_ ?_
         rotate_left
         ·show Act.put _ (some 92) _ = _
          simp only [Act.put, zsi, zcz, zcs, i64_w, i32_w]
          rfl
         refine one_ (i := 5) (N := some 94) #[true, true, true, true, true, true, false] rfl rfl (by kernel_rfl) (by decide) (fun K hK => ?_)
         refine goes_ Try.func33 (by kernel_rfl) rfl #[.agg #[.int .i64 a0_0, .int .i64 a0_1], .bool t251, .int .u64 (IntKind.u64.wrap (ji31 + 1)), .int .i64 0, .bool false] (by rfl) rfl rfl (by (try simp only [zmt, zmc, zmn]); first | done | (simp only [hji31]; rfl) | rfl) ?_
         with_reducible refine (ff_round.calls kj31 a0_0 a0_1 t251 (IntKind.u64.wrap (ji31 + 1)) 0 false t252 _ A48.out).mono ?_
         rintro e w51 ⟨rfl, hb⟩
         refine ⟨_, rfl, ?_⟩
         have n0_ := As0.mk (bkb (g := gb244) (o := .cells #[.int .i64 a0_0, .int .i64 a0_1] 43 (0, 0)) (by (with_reducible repeat (first | refine bkN ?_ _ | refine bkd ?_ | refine bka ?_ _)); exact BK244.out) hb)
         have n1_ := As0.mk (bst (by repeat (first | (with_reducible first | exact HB.out | apply bal | apply pwB_ | apply bd1 | refine bse ?_ GE244.out) | exact HB.out)) hb)
         clear BK244
         clear HB
         have BK244 := n0_
         have HB := n1_
         clear n0_ n1_
         (try clear hb)
         (try clear hb2)
         (try clear hk)
         (try clear hi)
         refine hK.out _ _ ⟨(bce BK244.out 0).trans rfl, (bce BK244.out 1).trans rfl⟩ (fun hHeld => ?_)
         clear hK K
         refine norm_ (a' := ?_) ?_ ?_
         rotate_left
         ·show Act.put _ (some 94) _ = _
          simp only [Act.put, zsi, zcz, zcs, i64_w, i32_w]
          rfl
         refine pure_ (i := 6) (N := some 6) (v := ?_) (a' := ?_) #[true, true, true, true, true, true, true] rfl rfl (by kernel_rfl) (fun _ _ _ h => h) (Or.inl ⟨by rfl, ?_⟩) ?_ ?_
         rotate_left
         ·intro w'
          go_simp
          with_reducible rfl
         rotate_left
         ·simp only [Act.put, zsi, zcz, zcs, i64_w, i32_w]
          rfl
         refine done_ (by kernel_rfl) ?_
         try go_wp2
         go_ret
         exact ⟨by first | rfl | (simp only [← hji23, ← hji24, ← hji26, ← hji27, ← hji29, ← hji31]; first | rfl) | (simp [*] <;> rfl), by repeat (first | (with_reducible first | exact HB.out | apply bal | apply pwB_ | apply bd1 | refine bse ?_ GE244.out) | exact HB.out)⟩
        ·replace c46 := Bool.eq_false_iff.mpr c46
         subst c46
         have H1 : ((ff_neg.f a0_0 a0_1 a2).bind fun t253 => ((ff_round.f kj31 a0_0 a0_1 t253 ji31 0 false).bind fun t254 => (some t254))) = some r := by rw [if_neg (show ¬ (false = true) by decide)] at H; exact H
         clear H
         have H := H1
         clear H1
         replace H := zob H
         obtain ⟨t253, A520, H⟩ := H
         replace H : ((ff_round.f kj31 a0_0 a0_1 t253 ji31 0 false).bind fun t254 => (some t254)) = some r := H
         have A52 := As0.mk A520
         clear A520
         replace H := zob H
         obtain ⟨t254, A530, H⟩ := H
         replace H : (some t254) = some r := H
         have A53 := As0.mk A530
         clear A530
         obtain rfl := Option.some.inj H
         try go_wp2
         have n0_ := As0.mk (bkd BK244.out)
         have n1_ := As0.mk (bd1 HB.out)
         clear BK244
         clear HB
         have BK244 := n0_
         have HB := n1_
         clear n0_ n1_
         refine start_ (n := 7) (S := fun w' => w'.cell? ⟨gb244, 0, none⟩ = some (.int .i64 a0_0) ∧ w'.cell? ⟨gb244, 1, none⟩ = some (.int .i64 a0_1)) (ds := []) #[false, false, false, false, false, false, false] (by kernel_rfl) rfl rfl ⟨(bce BK244.out 0).trans rfl, (bce BK244.out 1).trans rfl⟩ (fun hHeld => ?_)
         generalize wc.drew = w54 at BK244 HB hHeld ⊢
         refine pure_ (i := 2) (N := some 91) (v := ?_) (a' := ?_) #[false, false, true, false, false, false, false] rfl rfl (by kernel_rfl) (fun _ _ _ h => h) (Or.inl ⟨by rfl, ?_⟩) ?_ ?_
         rotate_left
         ·intro w'
          go_simp
          with_reducible rfl
         rotate_left
         ·simp only [Act.put, zsi, zcz, zcs, i64_w, i32_w]
          rfl
         refine pure_ (i := 4) (N := some 93) (v := ?_) (a' := ?_) #[false, false, true, false, true, false, false] rfl rfl (by kernel_rfl) (fun _ _ _ h => h) (Or.inl ⟨by rfl, ?_⟩) ?_ ?_
         rotate_left
         ·intro w'
          go_simp
          with_reducible rfl
         rotate_left
         ·simp only [Act.put, zsi, zcz, zcs, i64_w, i32_w]
          rfl
         refine take_ (i := 0) (N := some 89) (v := ?_) (a' := ?_) #[true, false, true, false, true, false, false] rfl rfl (by kernel_rfl) (fun _ _ _ h => h) (Or.inl ⟨by rfl, ?_⟩) hHeld ?_ ?_
         rotate_left
         ·rintro w' ⟨s0, s1⟩
          go_simp
          with_reducible rfl
         rotate_left
         ·simp only [Act.put, zsi, zcz, zcs, i64_w, i32_w]
          rfl
         refine take_ (i := 1) (N := some 90) (v := ?_) (a' := ?_) #[true, true, true, false, true, false, false] rfl rfl (by kernel_rfl) (fun _ _ _ h => h) (Or.inl ⟨by rfl, ?_⟩) hHeld ?_ ?_
         rotate_left
         ·rintro w' ⟨s0, s1⟩
          go_simp
          with_reducible rfl
         rotate_left
         ·simp only [Act.put, zsi, zcz, zcs, i64_w, i32_w]
          rfl
         refine one_ (i := 3) (N := some 92) #[true, true, true, true, true, false, false] rfl rfl (by kernel_rfl) (by decide) (fun K hK => ?_)
         refine goes_ Try.func39 (by kernel_rfl) rfl #[.agg #[.int .i64 a0_0, .int .i64 a0_1], .int .u64 a2] (by rfl) rfl rfl (by (try simp only [zmt, zmc, zmn]); first | done | rfl) ?_
         with_reducible refine (ff_neg.calls a0_0 a0_1 a2 t253 _ A52.out).mono ?_
         rintro e w55 ⟨rfl, hb⟩
         refine ⟨_, rfl, ?_⟩
         have n0_ := As0.mk (bkb (g := gb244) (o := .cells #[.int .i64 a0_0, .int .i64 a0_1] 43 (0, 0)) (by (with_reducible repeat (first | refine bkN ?_ _ | refine bkd ?_ | refine bka ?_ _)); exact BK244.out) hb)
         have n1_ := As0.mk (bst (by repeat (first | (with_reducible first | exact HB.out | apply bal | apply pwB_ | apply bd1 | refine bse ?_ GE244.out) | exact HB.out)) hb)
         clear BK244
         clear HB
         have BK244 := n0_
         have HB := n1_
         clear n0_ n1_
         (try clear hb)
         (try clear hb2)
         (try clear hk)
         (try clear hi)
         refine hK.out _ _ ⟨(bce BK244.out 0).trans rfl, (bce BK244.out 1).trans rfl⟩ (fun hHeld => ?_)
         clear hK K
         refine norm_ (a' := ?_) ?_ ?_
         rotate_left
         ·show Act.put _ (some 92) _ = _
          simp only [Act.put, zsi, zcz, zcs, i64_w, i32_w]
          rfl
         refine one_ (i := 5) (N := some 94) #[true, true, true, true, true, true, false] rfl rfl (by kernel_rfl) (by decide) (fun K hK => ?_)
         refine goes_ Try.func33 (by kernel_rfl) rfl #[.agg #[.int .i64 a0_0, .int .i64 a0_1], .bool t253, .int .u64 ji31, .int .i64 0, .bool false] (by rfl) rfl rfl (by (try simp only [zmt, zmc, zmn]); first | done | (simp only [hji31]; rfl) | rfl) ?_
         with_reducible refine (ff_round.calls kj31 a0_0 a0_1 t253 ji31 0 false t254 _ A53.out).mono ?_
         rintro e w56 ⟨rfl, hb⟩
         refine ⟨_, rfl, ?_⟩
         have n0_ := As0.mk (bkb (g := gb244) (o := .cells #[.int .i64 a0_0, .int .i64 a0_1] 43 (0, 0)) (by (with_reducible repeat (first | refine bkN ?_ _ | refine bkd ?_ | refine bka ?_ _)); exact BK244.out) hb)
         have n1_ := As0.mk (bst (by repeat (first | (with_reducible first | exact HB.out | apply bal | apply pwB_ | apply bd1 | refine bse ?_ GE244.out) | exact HB.out)) hb)
         clear BK244
         clear HB
         have BK244 := n0_
         have HB := n1_
         clear n0_ n1_
         (try clear hb)
         (try clear hb2)
         (try clear hk)
         (try clear hi)
         refine hK.out _ _ ⟨(bce BK244.out 0).trans rfl, (bce BK244.out 1).trans rfl⟩ (fun hHeld => ?_)
         clear hK K
         refine norm_ (a' := ?_) ?_ ?_
         rotate_left
         ·show Act.put _ (some 94) _ = _
          simp only [Act.put, zsi, zcz, zcs, i64_w, i32_w]
          rfl
         refine pure_ (i := 6) (N := some 6) (v := ?_) (a' := ?_) #[true, true, true, true, true, true, true] rfl rfl (by kernel_rfl) (fun _ _ _ h => h) (Or.inl ⟨by rfl, ?_⟩) ?_ ?_
         rotate_left
         ·intro w'
          go_simp
          with_reducible rfl
         rotate_left
         ·simp only [Act.put, zsi, zcz, zcs, i64_w, i32_w]
          rfl
         refine done_ (by kernel_rfl) ?_
         try go_wp2
         go_ret
         exact ⟨by first | rfl | (simp only [← hji23, ← hji24, ← hji26, ← hji27, ← hji29, ← hji31]; first | rfl) | (simp [*] <;> rfl), by repeat (first | (with_reducible first | exact HB.out | apply bal | apply pwB_ | apply bd1 | refine bse ?_ GE244.out) | exact HB.out)⟩
     ·rw [if_neg c28] at H
      exact absurd H (by simp)
    ·rw [if_neg c25] at H
     exact absurd H (by simp)
end Go.Proofs.Ytjfmomogidgbpaa.PFl
namespace Go.Proofs.Ytjfmomogidgbpaa.PFl
open Go.RowKit Go.Proofs.YtjfmomogidgbpaaW.PrintWords Go.Proofs.YtjfmomogidgbpaaW.PrintLast Go.Proofs.YtjfmomogidgbpaaW.PrintMore
attribute [local go_sem] max2_int min2_int max_two min_two max_three min_three max_four min_four
set_option linter.unusedVariables false
set_option linter.unusedSimpArgs false
def floats_Un.j0 : Nat → Int → Int → Bool → Int → Int → Option (Int × Int)
 | 0, _, _, _, _, _ => none
 | k + 1, x1, x2, x20, x258000, x258001 => if x20 = true then (some (0, 1)) else ((ff_cut.f x258000 x258001 x2).bind fun t259 => (if x1 = 1 then ((ff_size.f x258000 x258001 t259).bind fun t260 => (some (t260, 0))) else (if x1 = 2 then ((ff_sign.f x258000 x258001).bind fun t261 => (some (Go.bits .xor .u64 t259 t261, 0))) else ((ff_isNaN.f x258000 x258001 t259).bind fun t262 => (if t262 = true then ((ff_nan.f x258000 x258001).bind fun t263 => (some (t263, 0))) else (if x1 = 3 then ((ff_sqrt.f k x258000 x258001 t259).bind fun t264 => (some (t264, 0))) else ((ff_whole.f k x258000 x258001 x1 t259).bind fun t265 => (some (t265, 0)))))))))
def floats_Un.f (k : Nat) (a0 : Int) (a1 : Int) (a2 : Int) : Option (Int × Int) := (floats_of.f a0).bind fun bt255 => ((ff_none.f bt255.1 bt255.2).bind fun t258 => (if t258 = true then (floats_Un.j0 k a1 a2 true bt255.1 bt255.2) else (if a1 < 1 then (floats_Un.j0 k a1 a2 true bt255.1 bt255.2) else (floats_Un.j0 k a1 a2 (decide (a1 > 7)) bt255.1 bt255.2))))
theorem floats_Un.mono_l : ∀ k, (∀ y0 y1 y2 y3 y4, LeO (floats_Un.j0 k y0 y1 y2 y3 y4) (floats_Un.j0 (k + 1) y0 y1 y2 y3 y4)) := by
 intro k
 induction k with
 | zero => exact fun _ _ _ _ _ r h => by simp [floats_Un.j0] at h
 | succ k ih =>
  have ih0 := ih
  ·intro y0 y1 y2 y3 y4
   unfold floats_Un.j0
   repeat' first
   | (with_reducible exact ih0 _ _ _ _ _)
   | (with_reducible exact ff_sqrt.mono _ _ _ _)
   | (with_reducible exact ff_whole.mono _ _ _ _ _)
   | (with_reducible exact LeO.refl _)
   | (with_reducible exact LeO.none _)
   | (with_reducible refine LeO.ite ?_ ?_)
   | (with_reducible refine LeO.bind ?_ (fun _ => ?_))
   | exact ih0 _ _ _ _ _
   | exact ff_sqrt.mono _ _ _ _
   | exact ff_whole.mono _ _ _ _ _
   | exact LeO.none _
   | refine LeO.ite ?_ ?_
   | refine LeO.bind ?_ (fun _ => ?_)
theorem floats_Un.mono : ∀ a0 a1 a2 k, LeO (floats_Un.f k a0 a1 a2) (floats_Un.f (k + 1) a0 a1 a2) := by
 intro a0 a1 a2 k
 have ih0 := floats_Un.mono_l k
 unfold floats_Un.f
 repeat' first
   | (with_reducible exact ih0 _ _ _ _ _)
   | (with_reducible exact ff_sqrt.mono _ _ _ _)
   | (with_reducible exact ff_whole.mono _ _ _ _ _)
   | (with_reducible exact LeO.refl _)
   | (with_reducible exact LeO.none _)
   | (with_reducible refine LeO.ite ?_ ?_)
   | (with_reducible refine LeO.bind ?_ (fun _ => ?_))
   | exact ih0 _ _ _ _ _
   | exact ff_sqrt.mono _ _ _ _
   | exact ff_whole.mono _ _ _ _ _
   | exact LeO.none _
   | refine LeO.ite ?_ ?_
   | refine LeO.bind ?_ (fun _ => ?_)
set_option maxHeartbeats 8000000 in
set_option maxRecDepth 100000 in
theorem floats_Un.calls (k : Nat) (a0 : Int) (a1 : Int) (a2 : Int) (r1 : Int) (r2 : Int) (w : World) (h : floats_Un.f k a0 a1 a2 = some (r1, r2)) :
  Calls Try.prog 20 #[.int .i64 a0, .int .i64 a1, .int .u64 a2] w fun e w' => e = .returned (.tuple #[.int .u64 r1, .int .i64 r2]) ∧ Below w.heap.size w w' := by
 have hu43 := Try.underlying43
 have HB := As0.mk (Below.refl w.heap.size w)
 have H : ((floats_of.f a0).bind fun bt255 => ((ff_none.f bt255.1 bt255.2).bind fun t258 => (if t258 = true then (floats_Un.j0 k a1 a2 true bt255.1 bt255.2) else (if a1 < 1 then (floats_Un.j0 k a1 a2 true bt255.1 bt255.2) else (floats_Un.j0 k a1 a2 (decide (a1 > 7)) bt255.1 bt255.2))))) = some (r1, r2) := h
 clear h
 replace H := zob H
 obtain ⟨⟨t255, t256⟩, A40, H⟩ := H
 replace H : ((ff_none.f t255 t256).bind fun t258 => (if t258 = true then (floats_Un.j0 k a1 a2 true t255 t256) else (if a1 < 1 then (floats_Un.j0 k a1 a2 true t255 t256) else (floats_Un.j0 k a1 a2 (decide (a1 > 7)) t255 t256)))) = some (r1, r2) := H
 have A4 := As0.mk A40
 clear A40
 have HC5 := As0.mk H
 clear H
 go_enter Try.func20, Try.ntmps20
 go_upto_region 2 with (first | ((with_reducible refine gcl (f := 31) rfl ?_); refine goesL_ (some 10) rfl rfl Try.func31 (by kernel_rfl) rfl #[.int .i64 a0] rfl (by (try simp only [zmt, zmc, zmn]); first | done | rfl) ?_; (with_reducible refine (floats_of.calls a0 t255 t256 _ A4.out).mono ?_); rintro e w6 ⟨rfl, hb⟩; refine ⟨_, rfl, ?_⟩; have n0_ := As0.mk (bst (by repeat (first | (with_reducible first | exact HB.out | apply bal | apply pwB_ | apply bd1) | exact HB.out)) hb); clear HB; have HB := n0_; clear n0_; (try clear hb); (try clear hb2); (try clear hk); (try clear hi)) | ((with_reducible refine gate_dst (N := 8) rfl ?_); refine box_event ?hg (N := 8) ?hd (cs := #[.int .i64 0, .int .i64 0]) (t := 43) ?hr ?_; (case hd => rfl); (case hg => rfl); (case hr => first | (go_simp; done) | (go_simp; rfl)); intro gb257 hg w7 hbox hb; have n0_ := As0.mk (bst (by repeat (first | (with_reducible first | exact HB.out | apply bal | apply pwB_ | apply bd1) | exact HB.out)) hb); have n1_ := As0.mk (hbox); have n2_ := As0.mk ((by rw [hg]; exact (below_size (by repeat (first | (with_reducible first | exact HB.out | apply bal | apply pwB_ | apply bd1) | exact HB.out))) : w.heap.size ≤ gb257)); have n3_ := As0.mk ((by rw [hg]; exact (below_size (by repeat (first | (with_reducible first | exact HB.out | apply bal | apply pwB_ | apply bd1) | exact HB.out))) : w.heap.size ≤ gb257)); clear HB; have HB := n0_; have BK257 := n1_; have GW257 := n2_; have GE257 := n3_; clear n0_ n1_ n2_ n3_; clear hb hbox hg; have hcz8_0 : w7.cell? ⟨gb257, 0, none⟩ = some (.int .i64 0) := (bce BK257.out 0).trans rfl; have hcz8_1 : w7.cell? ⟨gb257, 1, none⟩ = some (.int .i64 0) := (bce BK257.out 1).trans rfl; have hfz8_0 := bkf BK257.out 0; have hfz8_1 := bkf BK257.out 1))
 (try simp only [Act.put, zsi, zcz, zcs])
 go_cut [20] (fun v20 wc => ∃ (kq : Nat) (x20_4 : Bool), v20 = .bool x20_4 ∧ As0 (floats_Un.j0 kq a1 a2 x20_4 t255 t256 = some (r1, r2)) ∧ As0 (kq ≤ k) ∧ As0 (wc.heap[gb257]? = some (.cells #[.int .i64 t255, .int .i64 t256] 43 (0, 0))) ∧ As0 (Below w.heap.size w wc))
 case first =>
  have H := HC5.out
  clear HC5
  replace H := zob H
  obtain ⟨t258, A90, H⟩ := H
  replace H : (if t258 = true then (floats_Un.j0 k a1 a2 true t255 t256) else (if a1 < 1 then (floats_Un.j0 k a1 a2 true t255 t256) else (floats_Un.j0 k a1 a2 (decide (a1 > 7)) t255 t256))) = some (r1, r2) := H
  have A9 := As0.mk A90
  clear A90
  by_cases c10 : t258 = true
  ·subst c10
   have H1 : (floats_Un.j0 k a1 a2 true t255 t256) = some (r1, r2) := by rw [if_pos rfl] at H; exact H
   clear H
   have H := H1
   clear H1
   have H' := As0.mk H
   clear H
   have hcz11_0 : w7.cell? ⟨gb257, 0, none⟩ = some (.int .i64 0) := (bce BK257.out 0).trans rfl
   have hcz11_1 : w7.cell? ⟨gb257, 1, none⟩ = some (.int .i64 0) := (bce BK257.out 1).trans rfl
   have hfz11_0 := bkf BK257.out 0
   have hfz11_1 := bkf BK257.out 1
   go_wp2_with (first | ((with_reducible refine gcl (f := 32) rfl ?_); refine goesL_ (some 12) rfl rfl Try.func32 (by kernel_rfl) rfl #[.agg #[.int .i64 t255, .int .i64 t256]] rfl (by (try simp only [zmt, zmc, zmn]); first | done | rfl) ?_; (with_reducible refine (ff_none.calls t255 t256 true _ A9.out).mono ?_); rintro e w12 ⟨rfl, hb⟩; refine ⟨_, rfl, ?_⟩; have n0_ := As0.mk (bkb (g := gb257) (o := .cells #[.int .i64 t255, .int .i64 t256] 43 (0, 0)) (by (with_reducible repeat (first | refine bkN ?_ _ | refine bkd ?_ | refine bka ?_ _)); refine blk_put (cs := #[.int .i64 t255, .int .i64 0]) ?_ 1 _ rfl; (with_reducible repeat (first | refine bkN ?_ _ | refine bkd ?_ | refine bka ?_ _)); refine blk_put (cs := #[.int .i64 0, .int .i64 0]) ?_ 0 _ rfl; (with_reducible repeat (first | refine bkN ?_ _ | refine bkd ?_ | refine bka ?_ _)); exact BK257.out) hb); have n1_ := As0.mk (bst (by repeat (first | (with_reducible first | exact HB.out | apply bal | apply pwB_ | apply bd1 | refine bse ?_ GE257.out) | exact HB.out)) hb); clear BK257; clear HB; have BK257 := n0_; have HB := n1_; clear n0_ n1_; (try clear hb); (try clear hb2); (try clear hk); (try clear hi)))
   go_meet
   case rel => exact ⟨_, (true), (by first | rfl | (simp; done) | (simp [*]; done)), H', ⟨by first | omega | exact Nat.le_refl _⟩, ⟨by (with_reducible repeat (first | refine bkN ?_ _ | refine bkd ?_ | refine bka ?_ _)); exact BK257.out⟩, ⟨by repeat (first | (with_reducible first | exact HB.out | apply bal | apply pwB_ | apply bd1 | refine bse ?_ GE257.out) | exact HB.out)⟩⟩
  ·replace c10 := Bool.eq_false_iff.mpr c10
   subst c10
   have H1 : (if a1 < 1 then (floats_Un.j0 k a1 a2 true t255 t256) else (floats_Un.j0 k a1 a2 (decide (a1 > 7)) t255 t256)) = some (r1, r2) := by rw [if_neg (show ¬ (false = true) by decide)] at H; exact H
   clear H
   have H := H1
   clear H1
   by_cases c13 : a1 < 1
   ·rw [if_pos c13] at H
    have c13b0 : decide (a1 < 1) = true := decide_eq_true c13
    clear c13
    (first | rw [c13b0] | (simp only [i64_w, i32_w]; rw [c13b0]) | skip)
    have H' := As0.mk H
    clear H
    have hcz14_0 : w7.cell? ⟨gb257, 0, none⟩ = some (.int .i64 0) := (bce BK257.out 0).trans rfl
    have hcz14_1 : w7.cell? ⟨gb257, 1, none⟩ = some (.int .i64 0) := (bce BK257.out 1).trans rfl
    have hfz14_0 := bkf BK257.out 0
    have hfz14_1 := bkf BK257.out 1
    go_wp2_with (first | ((with_reducible refine gcl (f := 32) rfl ?_); refine goesL_ (some 12) rfl rfl Try.func32 (by kernel_rfl) rfl #[.agg #[.int .i64 t255, .int .i64 t256]] rfl (by (try simp only [zmt, zmc, zmn]); first | done | rfl) ?_; (with_reducible refine (ff_none.calls t255 t256 false _ A9.out).mono ?_); rintro e w15 ⟨rfl, hb⟩; refine ⟨_, rfl, ?_⟩; have n0_ := As0.mk (bkb (g := gb257) (o := .cells #[.int .i64 t255, .int .i64 t256] 43 (0, 0)) (by (with_reducible repeat (first | refine bkN ?_ _ | refine bkd ?_ | refine bka ?_ _)); refine blk_put (cs := #[.int .i64 t255, .int .i64 0]) ?_ 1 _ rfl; (with_reducible repeat (first | refine bkN ?_ _ | refine bkd ?_ | refine bka ?_ _)); refine blk_put (cs := #[.int .i64 0, .int .i64 0]) ?_ 0 _ rfl; (with_reducible repeat (first | refine bkN ?_ _ | refine bkd ?_ | refine bka ?_ _)); exact BK257.out) hb); have n1_ := As0.mk (bst (by repeat (first | (with_reducible first | exact HB.out | apply bal | apply pwB_ | apply bd1 | refine bse ?_ GE257.out) | exact HB.out)) hb); clear BK257; clear HB; have BK257 := n0_; have HB := n1_; clear n0_ n1_; (try clear hb); (try clear hb2); (try clear hk); (try clear hi)))
    go_meet
    case rel => exact ⟨_, (true), (by first | rfl | (simp; done) | (simp [*]; done)), H', ⟨by first | omega | exact Nat.le_refl _⟩, ⟨by (with_reducible repeat (first | refine bkN ?_ _ | refine bkd ?_ | refine bka ?_ _)); exact BK257.out⟩, ⟨by repeat (first | (with_reducible first | exact HB.out | apply bal | apply pwB_ | apply bd1 | refine bse ?_ GE257.out) | exact HB.out)⟩⟩
   ·rw [if_neg c13] at H
    have c13b0 : decide (a1 < 1) = false := decide_eq_false c13
    clear c13
    (first | rw [c13b0] | (simp only [i64_w, i32_w]; rw [c13b0]) | skip)
    have H' := As0.mk H
    clear H
    have hcz16_0 : w7.cell? ⟨gb257, 0, none⟩ = some (.int .i64 0) := (bce BK257.out 0).trans rfl
    have hcz16_1 : w7.cell? ⟨gb257, 1, none⟩ = some (.int .i64 0) := (bce BK257.out 1).trans rfl
    have hfz16_0 := bkf BK257.out 0
    have hfz16_1 := bkf BK257.out 1
    go_wp2_with (first | ((with_reducible refine gcl (f := 32) rfl ?_); refine goesL_ (some 12) rfl rfl Try.func32 (by kernel_rfl) rfl #[.agg #[.int .i64 t255, .int .i64 t256]] rfl (by (try simp only [zmt, zmc, zmn]); first | done | rfl) ?_; (with_reducible refine (ff_none.calls t255 t256 false _ A9.out).mono ?_); rintro e w17 ⟨rfl, hb⟩; refine ⟨_, rfl, ?_⟩; have n0_ := As0.mk (bkb (g := gb257) (o := .cells #[.int .i64 t255, .int .i64 t256] 43 (0, 0)) (by (with_reducible repeat (first | refine bkN ?_ _ | refine bkd ?_ | refine bka ?_ _)); refine blk_put (cs := #[.int .i64 t255, .int .i64 0]) ?_ 1 _ rfl; (with_reducible repeat (first | refine bkN ?_ _ | refine bkd ?_ | refine bka ?_ _)); refine blk_put (cs := #[.int .i64 0, .int .i64 0]) ?_ 0 _ rfl; (with_reducible repeat (first | refine bkN ?_ _ | refine bkd ?_ | refine bka ?_ _)); exact BK257.out) hb); have n1_ := As0.mk (bst (by repeat (first | (with_reducible first | exact HB.out | apply bal | apply pwB_ | apply bd1 | refine bse ?_ GE257.out) | exact HB.out)) hb); clear BK257; clear HB; have BK257 := n0_; have HB := n1_; clear n0_ n1_; (try clear hb); (try clear hb2); (try clear hk); (try clear hi)))
    go_meet
    case rel => exact ⟨_, (decide (a1 > 7)), (by first | rfl | (simp; done) | (simp [*]; done)), H', ⟨by first | omega | exact Nat.le_refl _⟩, ⟨by (with_reducible repeat (first | refine bkN ?_ _ | refine bkd ?_ | refine bka ?_ _)); exact BK257.out⟩, ⟨by repeat (first | (with_reducible first | exact HB.out | apply bal | apply pwB_ | apply bd1 | refine bse ?_ GE257.out) | exact HB.out)⟩⟩
 case rest =>
  clear HC5
  try clear c1
  try clear c2
  try clear p2
  try clear c3
  try clear c10
  try clear c13
  try clear c13b0
  try clear hcz11_0
  try clear hcz11_1
  try clear hcz14_0
  try clear hcz14_1
  try clear hcz16_0
  try clear hcz16_1
  try clear hcz8_0
  try clear hcz8_1
  try clear hfz11_0
  try clear hfz11_1
  try clear hfz14_0
  try clear hfz14_1
  try clear hfz16_0
  try clear hfz16_1
  try clear hfz8_0
  try clear hfz8_1
  obtain ⟨kq, x20_4, rfl, HA, HJ4, BK257, HB⟩ := hcut
  cases kq with
  | zero => exact absurd HA.out (by simp [floats_Un.j0])
  | succ kj4 =>
   have H := HA.out
   clear HA
   simp only [floats_Un.j0] at H
   by_cases c18 : x20_4 = true
   ·subst c18
    have H1 : (some (0, 1)) = some (r1, r2) := by rw [if_pos rfl] at H; exact H
    clear H
    have H := H1
    clear H1
    simp only [Option.some.injEq, Prod.mk.injEq] at H
    obtain ⟨rfl, rfl⟩ := H
    go_wp2
    go_ret2
    exact ⟨by first | rfl | (simp [*] <;> rfl), by repeat (first | (with_reducible first | exact HB.out | apply bal | apply pwB_ | apply bd1 | refine bse ?_ GE257.out) | exact HB.out)⟩
   ·replace c18 := Bool.eq_false_iff.mpr c18
    subst c18
    have H1 : ((ff_cut.f t255 t256 a2).bind fun t259 => (if a1 = 1 then ((ff_size.f t255 t256 t259).bind fun t260 => (some (t260, 0))) else (if a1 = 2 then ((ff_sign.f t255 t256).bind fun t261 => (some (Go.bits .xor .u64 t259 t261, 0))) else ((ff_isNaN.f t255 t256 t259).bind fun t262 => (if t262 = true then ((ff_nan.f t255 t256).bind fun t263 => (some (t263, 0))) else (if a1 = 3 then ((ff_sqrt.f kj4 t255 t256 t259).bind fun t264 => (some (t264, 0))) else ((ff_whole.f kj4 t255 t256 a1 t259).bind fun t265 => (some (t265, 0))))))))) = some (r1, r2) := by rw [if_neg (show ¬ (false = true) by decide)] at H; exact H
    clear H
    have H := H1
    clear H1
    replace H := zob H
    obtain ⟨t259, A190, H⟩ := H
    replace H : (if a1 = 1 then ((ff_size.f t255 t256 t259).bind fun t260 => (some (t260, 0))) else (if a1 = 2 then ((ff_sign.f t255 t256).bind fun t261 => (some (Go.bits .xor .u64 t259 t261, 0))) else ((ff_isNaN.f t255 t256 t259).bind fun t262 => (if t262 = true then ((ff_nan.f t255 t256).bind fun t263 => (some (t263, 0))) else (if a1 = 3 then ((ff_sqrt.f kj4 t255 t256 t259).bind fun t264 => (some (t264, 0))) else ((ff_whole.f kj4 t255 t256 a1 t259).bind fun t265 => (some (t265, 0)))))))) = some (r1, r2) := H
    have A19 := As0.mk A190
    clear A190
    by_cases c20 : a1 = 1
    ·rw [if_pos c20] at H
     have c20b0 : (a1 == 1) = true := beq_iff_eq.mpr c20
     have c20b1 : (a1 != 1) = false := bne_eq_false_iff_eq.mpr c20
     clear c20
     replace H := zob H
     obtain ⟨t260, A210, H⟩ := H
     replace H : (some (t260, 0)) = some (r1, r2) := H
     have A21 := As0.mk A210
     clear A210
     simp only [Option.some.injEq, Prod.mk.injEq] at H
     obtain ⟨rfl, rfl⟩ := H
     have hcz22_0 : wc.cell? ⟨gb257, 0, none⟩ = some (.int .i64 t255) := (bce BK257.out 0).trans rfl
     have hcz22_1 : wc.cell? ⟨gb257, 1, none⟩ = some (.int .i64 t256) := (bce BK257.out 1).trans rfl
     have hfz22_0 := bkf BK257.out 0
     have hfz22_1 := bkf BK257.out 1
     go_wp2_with (first | ((with_reducible refine gcl (f := 36) rfl ?_); refine goesL_ (some 23) rfl rfl Try.func36 (by kernel_rfl) rfl #[.agg #[.int .i64 t255, .int .i64 t256], .int .u64 a2] rfl (by (try simp only [zmt, zmc, zmn]); first | done | rfl) ?_; (with_reducible refine (ff_cut.calls t255 t256 a2 t259 _ A19.out).mono ?_); rintro e w23 ⟨rfl, hb⟩; refine ⟨_, rfl, ?_⟩; have n0_ := As0.mk (bkb (g := gb257) (o := .cells #[.int .i64 t255, .int .i64 t256] 43 (0, 0)) (by (with_reducible repeat (first | refine bkN ?_ _ | refine bkd ?_ | refine bka ?_ _)); exact BK257.out) hb); have n1_ := As0.mk (bst (by repeat (first | (with_reducible first | exact HB.out | apply bal | apply pwB_ | apply bd1 | refine bse ?_ GE257.out) | exact HB.out)) hb); clear BK257; clear HB; have BK257 := n0_; have HB := n1_; clear n0_ n1_; (try clear hb); (try clear hb2); (try clear hk); (try clear hi); have hcz24_0 : w23.cell? ⟨gb257, 0, none⟩ = some (.int .i64 t255) := (bce BK257.out 0).trans rfl; have hcz24_1 : w23.cell? ⟨gb257, 1, none⟩ = some (.int .i64 t256) := (bce BK257.out 1).trans rfl; have hfz24_0 := bkf BK257.out 0; have hfz24_1 := bkf BK257.out 1) | ((with_reducible refine gcl (f := 40) rfl ?_); refine goesL_ (some 29) rfl rfl Try.func40 (by kernel_rfl) rfl #[.agg #[.int .i64 t255, .int .i64 t256], .int .u64 t259] rfl (by (try simp only [zmt, zmc, zmn]); first | done | rfl) ?_; (with_reducible refine (ff_size.calls t255 t256 t259 t260 _ A21.out).mono ?_); rintro e w25 ⟨rfl, hb⟩; refine ⟨_, rfl, ?_⟩; have n0_ := As0.mk (bkb (g := gb257) (o := .cells #[.int .i64 t255, .int .i64 t256] 43 (0, 0)) (by (with_reducible repeat (first | refine bkN ?_ _ | refine bkd ?_ | refine bka ?_ _)); exact BK257.out) hb); have n1_ := As0.mk (bst (by repeat (first | (with_reducible first | exact HB.out | apply bal | apply pwB_ | apply bd1 | refine bse ?_ GE257.out) | exact HB.out)) hb); clear BK257; clear HB; have BK257 := n0_; have HB := n1_; clear n0_ n1_; (try clear hb); (try clear hb2); (try clear hk); (try clear hi)))
     go_ret2
     exact ⟨by first | rfl | (simp [*] <;> rfl), by repeat (first | (with_reducible first | exact HB.out | apply bal | apply pwB_ | apply bd1 | refine bse ?_ GE257.out) | exact HB.out)⟩
    ·rw [if_neg c20] at H
     have c20b0 : (a1 == 1) = false := beq_eq_false_iff_ne.mpr c20
     have c20b1 : (a1 != 1) = true := bne_iff_ne.mpr c20
     by_cases c26 : a1 = 2
     ·rw [if_pos c26] at H
      have c26b0 : (a1 == 2) = true := beq_iff_eq.mpr c26
      have c26b1 : (a1 != 2) = false := bne_eq_false_iff_eq.mpr c26
      clear c26
      replace H := zob H
      obtain ⟨t261, A270, H⟩ := H
      replace H : (some (Go.bits .xor .u64 t259 t261, 0)) = some (r1, r2) := H
      have A27 := As0.mk A270
      clear A270
      simp only [Option.some.injEq, Prod.mk.injEq] at H
      obtain ⟨rfl, rfl⟩ := H
      have hcz28_0 : wc.cell? ⟨gb257, 0, none⟩ = some (.int .i64 t255) := (bce BK257.out 0).trans rfl
      have hcz28_1 : wc.cell? ⟨gb257, 1, none⟩ = some (.int .i64 t256) := (bce BK257.out 1).trans rfl
      have hfz28_0 := bkf BK257.out 0
      have hfz28_1 := bkf BK257.out 1
      go_wp2_with (first | ((with_reducible refine gcl (f := 36) rfl ?_); refine goesL_ (some 23) rfl rfl Try.func36 (by kernel_rfl) rfl #[.agg #[.int .i64 t255, .int .i64 t256], .int .u64 a2] rfl (by (try simp only [zmt, zmc, zmn]); first | done | rfl) ?_; (with_reducible refine (ff_cut.calls t255 t256 a2 t259 _ A19.out).mono ?_); rintro e w29 ⟨rfl, hb⟩; refine ⟨_, rfl, ?_⟩; have n0_ := As0.mk (bkb (g := gb257) (o := .cells #[.int .i64 t255, .int .i64 t256] 43 (0, 0)) (by (with_reducible repeat (first | refine bkN ?_ _ | refine bkd ?_ | refine bka ?_ _)); exact BK257.out) hb); have n1_ := As0.mk (bst (by repeat (first | (with_reducible first | exact HB.out | apply bal | apply pwB_ | apply bd1 | refine bse ?_ GE257.out) | exact HB.out)) hb); clear BK257; clear HB; have BK257 := n0_; have HB := n1_; clear n0_ n1_; (try clear hb); (try clear hb2); (try clear hk); (try clear hi); have hcz30_0 : w29.cell? ⟨gb257, 0, none⟩ = some (.int .i64 t255) := (bce BK257.out 0).trans rfl; have hcz30_1 : w29.cell? ⟨gb257, 1, none⟩ = some (.int .i64 t256) := (bce BK257.out 1).trans rfl; have hfz30_0 := bkf BK257.out 0; have hfz30_1 := bkf BK257.out 1) | ((with_reducible refine gcl (f := 43) rfl ?_); refine goesL_ (some 35) rfl rfl Try.func43 (by kernel_rfl) rfl #[.agg #[.int .i64 t255, .int .i64 t256]] rfl (by (try simp only [zmt, zmc, zmn]); first | done | rfl) ?_; (with_reducible refine (ff_sign.calls t255 t256 t261 _ A27.out).mono ?_); rintro e w31 ⟨rfl, hb⟩; refine ⟨_, rfl, ?_⟩; have n0_ := As0.mk (bkb (g := gb257) (o := .cells #[.int .i64 t255, .int .i64 t256] 43 (0, 0)) (by (with_reducible repeat (first | refine bkN ?_ _ | refine bkd ?_ | refine bka ?_ _)); exact BK257.out) hb); have n1_ := As0.mk (bst (by repeat (first | (with_reducible first | exact HB.out | apply bal | apply pwB_ | apply bd1 | refine bse ?_ GE257.out) | exact HB.out)) hb); clear BK257; clear HB; have BK257 := n0_; have HB := n1_; clear n0_ n1_; (try clear hb); (try clear hb2); (try clear hk); (try clear hi)))
      go_ret2
      exact ⟨by first | rfl | (simp [*] <;> rfl), by repeat (first | (with_reducible first | exact HB.out | apply bal | apply pwB_ | apply bd1 | refine bse ?_ GE257.out) | exact HB.out)⟩
     ·rw [if_neg c26] at H
      have c26b0 : (a1 == 2) = false := beq_eq_false_iff_ne.mpr c26
      have c26b1 : (a1 != 2) = true := bne_iff_ne.mpr c26
      replace H := zob H
      obtain ⟨t262, A320, H⟩ := H
      replace H : (if t262 = true then ((ff_nan.f t255 t256).bind fun t263 => (some (t263, 0))) else (if a1 = 3 then ((ff_sqrt.f kj4 t255 t256 t259).bind fun t264 => (some (t264, 0))) else ((ff_whole.f kj4 t255 t256 a1 t259).bind fun t265 => (some (t265, 0))))) = some (r1, r2) := H
      have A32 := As0.mk A320
      clear A320
      by_cases c33 : t262 = true
      ·subst c33
       have H1 : ((ff_nan.f t255 t256).bind fun t263 => (some (t263, 0))) = some (r1, r2) := by rw [if_pos rfl] at H; exact H
       clear H
       have H := H1
       clear H1
       replace H := zob H
       obtain ⟨t263, A340, H⟩ := H
       replace H : (some (t263, 0)) = some (r1, r2) := H
       have A34 := As0.mk A340
       clear A340
       simp only [Option.some.injEq, Prod.mk.injEq] at H
       obtain ⟨rfl, rfl⟩ := H
       have hcz35_0 : wc.cell? ⟨gb257, 0, none⟩ = some (.int .i64 t255) := (bce BK257.out 0).trans rfl
       have hcz35_1 : wc.cell? ⟨gb257, 1, none⟩ = some (.int .i64 t256) := (bce BK257.out 1).trans rfl
       have hfz35_0 := bkf BK257.out 0
       have hfz35_1 := bkf BK257.out 1
       go_wp2_with (first | ((with_reducible refine gcl (f := 36) rfl ?_); refine goesL_ (some 23) rfl rfl Try.func36 (by kernel_rfl) rfl #[.agg #[.int .i64 t255, .int .i64 t256], .int .u64 a2] rfl (by (try simp only [zmt, zmc, zmn]); first | done | rfl) ?_; (with_reducible refine (ff_cut.calls t255 t256 a2 t259 _ A19.out).mono ?_); rintro e w36 ⟨rfl, hb⟩; refine ⟨_, rfl, ?_⟩; have n0_ := As0.mk (bkb (g := gb257) (o := .cells #[.int .i64 t255, .int .i64 t256] 43 (0, 0)) (by (with_reducible repeat (first | refine bkN ?_ _ | refine bkd ?_ | refine bka ?_ _)); exact BK257.out) hb); have n1_ := As0.mk (bst (by repeat (first | (with_reducible first | exact HB.out | apply bal | apply pwB_ | apply bd1 | refine bse ?_ GE257.out) | exact HB.out)) hb); clear BK257; clear HB; have BK257 := n0_; have HB := n1_; clear n0_ n1_; (try clear hb); (try clear hb2); (try clear hk); (try clear hi); have hcz37_0 : w36.cell? ⟨gb257, 0, none⟩ = some (.int .i64 t255) := (bce BK257.out 0).trans rfl; have hcz37_1 : w36.cell? ⟨gb257, 1, none⟩ = some (.int .i64 t256) := (bce BK257.out 1).trans rfl; have hfz37_0 := bkf BK257.out 0; have hfz37_1 := bkf BK257.out 1) | ((with_reducible refine gcl (f := 37) rfl ?_); refine goesL_ (some 40) rfl rfl Try.func37 (by kernel_rfl) rfl #[.agg #[.int .i64 t255, .int .i64 t256], .int .u64 t259] rfl (by (try simp only [zmt, zmc, zmn]); first | done | rfl) ?_; (with_reducible refine (ff_isNaN.calls t255 t256 t259 true _ A32.out).mono ?_); rintro e w38 ⟨rfl, hb⟩; refine ⟨_, rfl, ?_⟩; have n0_ := As0.mk (bkb (g := gb257) (o := .cells #[.int .i64 t255, .int .i64 t256] 43 (0, 0)) (by (with_reducible repeat (first | refine bkN ?_ _ | refine bkd ?_ | refine bka ?_ _)); exact BK257.out) hb); have n1_ := As0.mk (bst (by repeat (first | (with_reducible first | exact HB.out | apply bal | apply pwB_ | apply bd1 | refine bse ?_ GE257.out) | exact HB.out)) hb); clear BK257; clear HB; have BK257 := n0_; have HB := n1_; clear n0_ n1_; (try clear hb); (try clear hb2); (try clear hk); (try clear hi); have hcz39_0 : w38.cell? ⟨gb257, 0, none⟩ = some (.int .i64 t255) := (bce BK257.out 0).trans rfl; have hcz39_1 : w38.cell? ⟨gb257, 1, none⟩ = some (.int .i64 t256) := (bce BK257.out 1).trans rfl; have hfz39_0 := bkf BK257.out 0; have hfz39_1 := bkf BK257.out 1) | ((with_reducible refine gcl (f := 42) rfl ?_); refine goesL_ (some 42) rfl rfl Try.func42 (by kernel_rfl) rfl #[.agg #[.int .i64 t255, .int .i64 t256]] rfl (by (try simp only [zmt, zmc, zmn]); first | done | rfl) ?_; (with_reducible refine (ff_nan.calls t255 t256 t263 _ A34.out).mono ?_); rintro e w40 ⟨rfl, hb⟩; refine ⟨_, rfl, ?_⟩; have n0_ := As0.mk (bkb (g := gb257) (o := .cells #[.int .i64 t255, .int .i64 t256] 43 (0, 0)) (by (with_reducible repeat (first | refine bkN ?_ _ | refine bkd ?_ | refine bka ?_ _)); exact BK257.out) hb); have n1_ := As0.mk (bst (by repeat (first | (with_reducible first | exact HB.out | apply bal | apply pwB_ | apply bd1 | refine bse ?_ GE257.out) | exact HB.out)) hb); clear BK257; clear HB; have BK257 := n0_; have HB := n1_; clear n0_ n1_; (try clear hb); (try clear hb2); (try clear hk); (try clear hi)))
       go_ret2
       exact ⟨by first | rfl | (simp [*] <;> rfl), by repeat (first | (with_reducible first | exact HB.out | apply bal | apply pwB_ | apply bd1 | refine bse ?_ GE257.out) | exact HB.out)⟩
      ·replace c33 := Bool.eq_false_iff.mpr c33
       subst c33
       have H1 : (if a1 = 3 then ((ff_sqrt.f kj4 t255 t256 t259).bind fun t264 => (some (t264, 0))) else ((ff_whole.f kj4 t255 t256 a1 t259).bind fun t265 => (some (t265, 0)))) = some (r1, r2) := by rw [if_neg (show ¬ (false = true) by decide)] at H; exact H
       clear H
       have H := H1
       clear H1
       by_cases c41 : a1 = 3
       ·rw [if_pos c41] at H
        have c41b0 : (a1 == 3) = true := beq_iff_eq.mpr c41
        have c41b1 : (a1 != 3) = false := bne_eq_false_iff_eq.mpr c41
        clear c41
        replace H := zob H
        obtain ⟨t264, A420, H⟩ := H
        replace H : (some (t264, 0)) = some (r1, r2) := H
        have A42 := As0.mk A420
        clear A420
        simp only [Option.some.injEq, Prod.mk.injEq] at H
        obtain ⟨rfl, rfl⟩ := H
        have hcz43_0 : wc.cell? ⟨gb257, 0, none⟩ = some (.int .i64 t255) := (bce BK257.out 0).trans rfl
        have hcz43_1 : wc.cell? ⟨gb257, 1, none⟩ = some (.int .i64 t256) := (bce BK257.out 1).trans rfl
        have hfz43_0 := bkf BK257.out 0
        have hfz43_1 := bkf BK257.out 1
        go_wp2_with (first | ((with_reducible refine gcl (f := 36) rfl ?_); refine goesL_ (some 23) rfl rfl Try.func36 (by kernel_rfl) rfl #[.agg #[.int .i64 t255, .int .i64 t256], .int .u64 a2] rfl (by (try simp only [zmt, zmc, zmn]); first | done | rfl) ?_; (with_reducible refine (ff_cut.calls t255 t256 a2 t259 _ A19.out).mono ?_); rintro e w44 ⟨rfl, hb⟩; refine ⟨_, rfl, ?_⟩; have n0_ := As0.mk (bkb (g := gb257) (o := .cells #[.int .i64 t255, .int .i64 t256] 43 (0, 0)) (by (with_reducible repeat (first | refine bkN ?_ _ | refine bkd ?_ | refine bka ?_ _)); exact BK257.out) hb); have n1_ := As0.mk (bst (by repeat (first | (with_reducible first | exact HB.out | apply bal | apply pwB_ | apply bd1 | refine bse ?_ GE257.out) | exact HB.out)) hb); clear BK257; clear HB; have BK257 := n0_; have HB := n1_; clear n0_ n1_; (try clear hb); (try clear hb2); (try clear hk); (try clear hi); have hcz45_0 : w44.cell? ⟨gb257, 0, none⟩ = some (.int .i64 t255) := (bce BK257.out 0).trans rfl; have hcz45_1 : w44.cell? ⟨gb257, 1, none⟩ = some (.int .i64 t256) := (bce BK257.out 1).trans rfl; have hfz45_0 := bkf BK257.out 0; have hfz45_1 := bkf BK257.out 1) | ((with_reducible refine gcl (f := 37) rfl ?_); refine goesL_ (some 40) rfl rfl Try.func37 (by kernel_rfl) rfl #[.agg #[.int .i64 t255, .int .i64 t256], .int .u64 t259] rfl (by (try simp only [zmt, zmc, zmn]); first | done | rfl) ?_; (with_reducible refine (ff_isNaN.calls t255 t256 t259 false _ A32.out).mono ?_); rintro e w46 ⟨rfl, hb⟩; refine ⟨_, rfl, ?_⟩; have n0_ := As0.mk (bkb (g := gb257) (o := .cells #[.int .i64 t255, .int .i64 t256] 43 (0, 0)) (by (with_reducible repeat (first | refine bkN ?_ _ | refine bkd ?_ | refine bka ?_ _)); exact BK257.out) hb); have n1_ := As0.mk (bst (by repeat (first | (with_reducible first | exact HB.out | apply bal | apply pwB_ | apply bd1 | refine bse ?_ GE257.out) | exact HB.out)) hb); clear BK257; clear HB; have BK257 := n0_; have HB := n1_; clear n0_ n1_; (try clear hb); (try clear hb2); (try clear hk); (try clear hi); have hcz47_0 : w46.cell? ⟨gb257, 0, none⟩ = some (.int .i64 t255) := (bce BK257.out 0).trans rfl; have hcz47_1 : w46.cell? ⟨gb257, 1, none⟩ = some (.int .i64 t256) := (bce BK257.out 1).trans rfl; have hfz47_0 := bkf BK257.out 0; have hfz47_1 := bkf BK257.out 1) | ((with_reducible refine gcl (f := 48) rfl ?_); refine goesL_ (some 48) rfl rfl Try.func48 (by kernel_rfl) rfl #[.agg #[.int .i64 t255, .int .i64 t256], .int .u64 t259] rfl (by (try simp only [zmt, zmc, zmn]); first | done | rfl) ?_; (with_reducible refine (ff_sqrt.calls kj4 t255 t256 t259 t264 _ A42.out).mono ?_); rintro e w48 ⟨rfl, hb⟩; refine ⟨_, rfl, ?_⟩; have n0_ := As0.mk (bkb (g := gb257) (o := .cells #[.int .i64 t255, .int .i64 t256] 43 (0, 0)) (by (with_reducible repeat (first | refine bkN ?_ _ | refine bkd ?_ | refine bka ?_ _)); exact BK257.out) hb); have n1_ := As0.mk (bst (by repeat (first | (with_reducible first | exact HB.out | apply bal | apply pwB_ | apply bd1 | refine bse ?_ GE257.out) | exact HB.out)) hb); clear BK257; clear HB; have BK257 := n0_; have HB := n1_; clear n0_ n1_; (try clear hb); (try clear hb2); (try clear hk); (try clear hi)))
        go_ret2
        exact ⟨by first | rfl | (simp [*] <;> rfl), by repeat (first | (with_reducible first | exact HB.out | apply bal | apply pwB_ | apply bd1 | refine bse ?_ GE257.out) | exact HB.out)⟩
       ·rw [if_neg c41] at H
        have c41b0 : (a1 == 3) = false := beq_eq_false_iff_ne.mpr c41
        have c41b1 : (a1 != 3) = true := bne_iff_ne.mpr c41
        replace H := zob H
        obtain ⟨t265, A490, H⟩ := H
        replace H : (some (t265, 0)) = some (r1, r2) := H
        have A49 := As0.mk A490
        clear A490
        simp only [Option.some.injEq, Prod.mk.injEq] at H
        obtain ⟨rfl, rfl⟩ := H
        have hcz50_0 : wc.cell? ⟨gb257, 0, none⟩ = some (.int .i64 t255) := (bce BK257.out 0).trans rfl
        have hcz50_1 : wc.cell? ⟨gb257, 1, none⟩ = some (.int .i64 t256) := (bce BK257.out 1).trans rfl
        have hfz50_0 := bkf BK257.out 0
        have hfz50_1 := bkf BK257.out 1
        go_wp2_with (first | ((with_reducible refine gcl (f := 36) rfl ?_); refine goesL_ (some 23) rfl rfl Try.func36 (by kernel_rfl) rfl #[.agg #[.int .i64 t255, .int .i64 t256], .int .u64 a2] rfl (by (try simp only [zmt, zmc, zmn]); first | done | rfl) ?_; (with_reducible refine (ff_cut.calls t255 t256 a2 t259 _ A19.out).mono ?_); rintro e w51 ⟨rfl, hb⟩; refine ⟨_, rfl, ?_⟩; have n0_ := As0.mk (bkb (g := gb257) (o := .cells #[.int .i64 t255, .int .i64 t256] 43 (0, 0)) (by (with_reducible repeat (first | refine bkN ?_ _ | refine bkd ?_ | refine bka ?_ _)); exact BK257.out) hb); have n1_ := As0.mk (bst (by repeat (first | (with_reducible first | exact HB.out | apply bal | apply pwB_ | apply bd1 | refine bse ?_ GE257.out) | exact HB.out)) hb); clear BK257; clear HB; have BK257 := n0_; have HB := n1_; clear n0_ n1_; (try clear hb); (try clear hb2); (try clear hk); (try clear hi); have hcz52_0 : w51.cell? ⟨gb257, 0, none⟩ = some (.int .i64 t255) := (bce BK257.out 0).trans rfl; have hcz52_1 : w51.cell? ⟨gb257, 1, none⟩ = some (.int .i64 t256) := (bce BK257.out 1).trans rfl; have hfz52_0 := bkf BK257.out 0; have hfz52_1 := bkf BK257.out 1) | ((with_reducible refine gcl (f := 37) rfl ?_); refine goesL_ (some 40) rfl rfl Try.func37 (by kernel_rfl) rfl #[.agg #[.int .i64 t255, .int .i64 t256], .int .u64 t259] rfl (by (try simp only [zmt, zmc, zmn]); first | done | rfl) ?_; (with_reducible refine (ff_isNaN.calls t255 t256 t259 false _ A32.out).mono ?_); rintro e w53 ⟨rfl, hb⟩; refine ⟨_, rfl, ?_⟩; have n0_ := As0.mk (bkb (g := gb257) (o := .cells #[.int .i64 t255, .int .i64 t256] 43 (0, 0)) (by (with_reducible repeat (first | refine bkN ?_ _ | refine bkd ?_ | refine bka ?_ _)); exact BK257.out) hb); have n1_ := As0.mk (bst (by repeat (first | (with_reducible first | exact HB.out | apply bal | apply pwB_ | apply bd1 | refine bse ?_ GE257.out) | exact HB.out)) hb); clear BK257; clear HB; have BK257 := n0_; have HB := n1_; clear n0_ n1_; (try clear hb); (try clear hb2); (try clear hk); (try clear hi); have hcz54_0 : w53.cell? ⟨gb257, 0, none⟩ = some (.int .i64 t255) := (bce BK257.out 0).trans rfl; have hcz54_1 : w53.cell? ⟨gb257, 1, none⟩ = some (.int .i64 t256) := (bce BK257.out 1).trans rfl; have hfz54_0 := bkf BK257.out 0; have hfz54_1 := bkf BK257.out 1) | ((with_reducible refine gcl (f := 49) rfl ?_); refine goesL_ (some 52) rfl rfl Try.func49 (by kernel_rfl) rfl #[.agg #[.int .i64 t255, .int .i64 t256], .int .i64 a1, .int .u64 t259] rfl (by (try simp only [zmt, zmc, zmn]); first | done | rfl) ?_; (with_reducible refine (ff_whole.calls kj4 t255 t256 a1 t259 t265 _ A49.out).mono ?_); rintro e w55 ⟨rfl, hb⟩; refine ⟨_, rfl, ?_⟩; have n0_ := As0.mk (bkb (g := gb257) (o := .cells #[.int .i64 t255, .int .i64 t256] 43 (0, 0)) (by (with_reducible repeat (first | refine bkN ?_ _ | refine bkd ?_ | refine bka ?_ _)); exact BK257.out) hb); have n1_ := As0.mk (bst (by repeat (first | (with_reducible first | exact HB.out | apply bal | apply pwB_ | apply bd1 | refine bse ?_ GE257.out) | exact HB.out)) hb); clear BK257; clear HB; have BK257 := n0_; have HB := n1_; clear n0_ n1_; (try clear hb); (try clear hb2); (try clear hk); (try clear hi)))
        go_ret2
        exact ⟨by first | rfl | (simp [*] <;> rfl), by repeat (first | (with_reducible first | exact HB.out | apply bal | apply pwB_ | apply bd1 | refine bse ?_ GE257.out) | exact HB.out)⟩
end Go.Proofs.Ytjfmomogidgbpaa.PFl
namespace Go.Proofs.Ytjfmomogidgbpaa.PFl
open Go.RowKit Go.Proofs.YtjfmomogidgbpaaW.PrintWords Go.Proofs.YtjfmomogidgbpaaW.PrintLast Go.Proofs.YtjfmomogidgbpaaW.PrintMore
attribute [local go_sem] max2_int min2_int max_two min_two max_three min_three max_four min_four
set_option linter.unusedVariables false
set_option linter.unusedSimpArgs false
mutual
def floats_Rel.j0 : Nat → Int → Int → Int → Bool → Int → Int → Option (Bool × Int)
 | 0, _, _, _, _, _, _ => none
 | k + 1, x1, x2, x3, x24, x269000, x269001 => if x24 = true then (some (false, 1)) else ((ff_isNaN.f x269000 x269001 x2).bind fun t270 => (if t270 = true then (floats_Rel.j1 k x1 x2 x3 true x269000 x269001) else ((ff_isNaN.f x269000 x269001 x3).bind fun t271 => (floats_Rel.j1 k x1 x2 x3 t271 x269000 x269001))))
def floats_Rel.j1 : Nat → Int → Int → Int → Bool → Int → Int → Option (Bool × Int)
 | 0, _, _, _, _, _, _ => none
 | k + 1, x1, x2, x3, x32, x269000, x269001 => if x32 = true then (some ((x1 == 2), 0)) else ((ff_less.f x269000 x269001 x2 x3).bind fun t272 => ((ff_less.f x269000 x269001 x3 x2).bind fun t273 => (if x1 = 1 then (if t272 = true then (some (false, 0)) else (some (!t273, 0))) else (if x1 = 2 then (if t272 = true then (some (true, 0)) else (some (t273, 0))) else (if x1 = 3 then (some (t272, 0)) else (if x1 = 4 then (some (t273, 0)) else (if x1 = 5 then (some (!t273, 0)) else (some (!t272, 0)))))))))
end
def floats_Rel.f (k : Nat) (a0 : Int) (a1 : Int) (a2 : Int) (a3 : Int) : Option (Bool × Int) := (floats_of.f a0).bind fun bt266 => ((ff_none.f bt266.1 bt266.2).bind fun t269 => (if t269 = true then (floats_Rel.j0 k a1 a2 a3 true bt266.1 bt266.2) else (if a1 < 1 then (floats_Rel.j0 k a1 a2 a3 true bt266.1 bt266.2) else (floats_Rel.j0 k a1 a2 a3 (decide (a1 > 6)) bt266.1 bt266.2))))
theorem floats_Rel.mono_l : ∀ k, (∀ y0 y1 y2 y3 y4 y5, LeO (floats_Rel.j0 k y0 y1 y2 y3 y4 y5) (floats_Rel.j0 (k + 1) y0 y1 y2 y3 y4 y5)) ∧ (∀ y0 y1 y2 y3 y4 y5, LeO (floats_Rel.j1 k y0 y1 y2 y3 y4 y5) (floats_Rel.j1 (k + 1) y0 y1 y2 y3 y4 y5)) := by
 intro k
 induction k with
 | zero => exact ⟨fun _ _ _ _ _ _ r h => by simp [floats_Rel.j0] at h, fun _ _ _ _ _ _ r h => by simp [floats_Rel.j1] at h⟩
 | succ k ih =>
  obtain ⟨ih0, ih1⟩ := ih
  refine ⟨?_, ?_⟩
  ·intro y0 y1 y2 y3 y4 y5
   unfold floats_Rel.j0
   repeat' first
   | (with_reducible exact ih0 _ _ _ _ _ _)
   | (with_reducible exact ih1 _ _ _ _ _ _)
   | (with_reducible exact LeO.refl _)
   | (with_reducible exact LeO.none _)
   | (with_reducible refine LeO.ite ?_ ?_)
   | (with_reducible refine LeO.bind ?_ (fun _ => ?_))
   | exact ih0 _ _ _ _ _ _
   | exact ih1 _ _ _ _ _ _
   | exact LeO.none _
   | refine LeO.ite ?_ ?_
   | refine LeO.bind ?_ (fun _ => ?_)
  ·intro y0 y1 y2 y3 y4 y5
   unfold floats_Rel.j1
   repeat' first
   | (with_reducible exact ih0 _ _ _ _ _ _)
   | (with_reducible exact ih1 _ _ _ _ _ _)
   | (with_reducible exact LeO.refl _)
   | (with_reducible exact LeO.none _)
   | (with_reducible refine LeO.ite ?_ ?_)
   | (with_reducible refine LeO.bind ?_ (fun _ => ?_))
   | exact ih0 _ _ _ _ _ _
   | exact ih1 _ _ _ _ _ _
   | exact LeO.none _
   | refine LeO.ite ?_ ?_
   | refine LeO.bind ?_ (fun _ => ?_)
theorem floats_Rel.mono : ∀ a0 a1 a2 a3 k, LeO (floats_Rel.f k a0 a1 a2 a3) (floats_Rel.f (k + 1) a0 a1 a2 a3) := by
 intro a0 a1 a2 a3 k
 obtain ⟨ih0, ih1⟩ := floats_Rel.mono_l k
 unfold floats_Rel.f
 repeat' first
   | (with_reducible exact ih0 _ _ _ _ _ _)
   | (with_reducible exact ih1 _ _ _ _ _ _)
   | (with_reducible exact LeO.refl _)
   | (with_reducible exact LeO.none _)
   | (with_reducible refine LeO.ite ?_ ?_)
   | (with_reducible refine LeO.bind ?_ (fun _ => ?_))
   | exact ih0 _ _ _ _ _ _
   | exact ih1 _ _ _ _ _ _
   | exact LeO.none _
   | refine LeO.ite ?_ ?_
   | refine LeO.bind ?_ (fun _ => ?_)
def floats_Rel.T6 : Bool × List (List Nat × List Nat) := (true, [([], []), ([], []), ([], []), ([0, 1, 2], [0, 1, 2]), ([], []), ([], []), ([], []), ([4, 5, 6, 3], [4, 5, 6]), ([3, 7, 0, 1, 2, 3], [3]), ([7, 8, 0, 1, 2, 3, 4, 5, 6, 7, 8], [7])])
def floats_Rel.B6 : List Nat := [0, 0, 0, 7, 0, 0, 0, 127, 255, 511]
theorem floats_Rel.tab6 : rtab .any (opsOf Try.f21 6) = floats_Rel.T6 := by kernel_rfl
theorem floats_Rel.bits6 : waitsOk floats_Rel.T6.2 floats_Rel.B6 = true := by kernel_rfl
set_option maxHeartbeats 8000000 in
set_option maxRecDepth 100000 in
theorem floats_Rel.calls (k : Nat) (a0 : Int) (a1 : Int) (a2 : Int) (a3 : Int) (r1 : Bool) (r2 : Int) (w : World) (h : floats_Rel.f k a0 a1 a2 a3 = some (r1, r2)) :
  Calls Try.prog 21 #[.int .i64 a0, .int .i64 a1, .int .u64 a2, .int .u64 a3] w fun e w' => e = .returned (.tuple #[.bool r1, .int .i64 r2]) ∧ Below w.heap.size w w' := by
 have hu43 := Try.underlying43
 have HB := As0.mk (Below.refl w.heap.size w)
 have H : ((floats_of.f a0).bind fun bt266 => ((ff_none.f bt266.1 bt266.2).bind fun t269 => (if t269 = true then (floats_Rel.j0 k a1 a2 a3 true bt266.1 bt266.2) else (if a1 < 1 then (floats_Rel.j0 k a1 a2 a3 true bt266.1 bt266.2) else (floats_Rel.j0 k a1 a2 a3 (decide (a1 > 6)) bt266.1 bt266.2))))) = some (r1, r2) := h
 clear h
 replace H := zob H
 obtain ⟨⟨t266, t267⟩, A50, H⟩ := H
 replace H : ((ff_none.f t266 t267).bind fun t269 => (if t269 = true then (floats_Rel.j0 k a1 a2 a3 true t266 t267) else (if a1 < 1 then (floats_Rel.j0 k a1 a2 a3 true t266 t267) else (floats_Rel.j0 k a1 a2 a3 (decide (a1 > 6)) t266 t267)))) = some (r1, r2) := H
 have A5 := As0.mk A50
 clear A50
 have HC6 := As0.mk H
 clear H
 go_enter Try.func21, Try.ntmps21
 go_upto_region 2 with (first | ((with_reducible refine gcl (f := 31) rfl ?_); refine goesL_ (some 14) rfl rfl Try.func31 (by kernel_rfl) rfl #[.int .i64 a0] rfl (by (try simp only [zmt, zmc, zmn]); first | done | rfl) ?_; (with_reducible refine (floats_of.calls a0 t266 t267 _ A5.out).mono ?_); rintro e w7 ⟨rfl, hb⟩; refine ⟨_, rfl, ?_⟩; have n0_ := As0.mk (bst (by repeat (first | (with_reducible first | exact HB.out | apply bal | apply pwB_ | apply bd1) | exact HB.out)) hb); clear HB; have HB := n0_; clear n0_; (try clear hb); (try clear hb2); (try clear hk); (try clear hi)) | ((with_reducible refine gate_dst (N := 10) rfl ?_); refine box_event ?hg (N := 10) ?hd (cs := #[.int .i64 0, .int .i64 0]) (t := 43) ?hr ?_; (case hd => rfl); (case hg => rfl); (case hr => first | (go_simp; done) | (go_simp; rfl)); intro gb268 hg w8 hbox hb; have n0_ := As0.mk (bst (by repeat (first | (with_reducible first | exact HB.out | apply bal | apply pwB_ | apply bd1) | exact HB.out)) hb); have n1_ := As0.mk (hbox); have n2_ := As0.mk ((by rw [hg]; exact (below_size (by repeat (first | (with_reducible first | exact HB.out | apply bal | apply pwB_ | apply bd1) | exact HB.out))) : w.heap.size ≤ gb268)); have n3_ := As0.mk ((by rw [hg]; exact (below_size (by repeat (first | (with_reducible first | exact HB.out | apply bal | apply pwB_ | apply bd1) | exact HB.out))) : w.heap.size ≤ gb268)); clear HB; have HB := n0_; have BK268 := n1_; have GW268 := n2_; have GE268 := n3_; clear n0_ n1_ n2_ n3_; clear hb hbox hg; have hcz9_0 : w8.cell? ⟨gb268, 0, none⟩ = some (.int .i64 0) := (bce BK268.out 0).trans rfl; have hcz9_1 : w8.cell? ⟨gb268, 1, none⟩ = some (.int .i64 0) := (bce BK268.out 1).trans rfl; have hfz9_0 := bkf BK268.out 0; have hfz9_1 := bkf BK268.out 1))
 (try simp only [Act.put, zsi, zcz, zcs])
 go_cut [24] (fun v24 wc => ∃ (kq : Nat) (x24_5 : Bool), v24 = .bool x24_5 ∧ As0 (floats_Rel.j0 kq a1 a2 a3 x24_5 t266 t267 = some (r1, r2)) ∧ As0 (kq ≤ k) ∧ As0 (wc.heap[gb268]? = some (.cells #[.int .i64 t266, .int .i64 t267] 43 (0, 0))) ∧ As0 (Below w.heap.size w wc))
 case first =>
  have H := HC6.out
  clear HC6
  replace H := zob H
  obtain ⟨t269, A100, H⟩ := H
  replace H : (if t269 = true then (floats_Rel.j0 k a1 a2 a3 true t266 t267) else (if a1 < 1 then (floats_Rel.j0 k a1 a2 a3 true t266 t267) else (floats_Rel.j0 k a1 a2 a3 (decide (a1 > 6)) t266 t267))) = some (r1, r2) := H
  have A10 := As0.mk A100
  clear A100
  by_cases c11 : t269 = true
  ·subst c11
   have H1 : (floats_Rel.j0 k a1 a2 a3 true t266 t267) = some (r1, r2) := by rw [if_pos rfl] at H; exact H
   clear H
   have H := H1
   clear H1
   have H' := As0.mk H
   clear H
   have hcz12_0 : w8.cell? ⟨gb268, 0, none⟩ = some (.int .i64 0) := (bce BK268.out 0).trans rfl
   have hcz12_1 : w8.cell? ⟨gb268, 1, none⟩ = some (.int .i64 0) := (bce BK268.out 1).trans rfl
   have hfz12_0 := bkf BK268.out 0
   have hfz12_1 := bkf BK268.out 1
   go_wp2_with (first | ((with_reducible refine gcl (f := 32) rfl ?_); refine goesL_ (some 16) rfl rfl Try.func32 (by kernel_rfl) rfl #[.agg #[.int .i64 t266, .int .i64 t267]] rfl (by (try simp only [zmt, zmc, zmn]); first | done | rfl) ?_; (with_reducible refine (ff_none.calls t266 t267 true _ A10.out).mono ?_); rintro e w13 ⟨rfl, hb⟩; refine ⟨_, rfl, ?_⟩; have n0_ := As0.mk (bkb (g := gb268) (o := .cells #[.int .i64 t266, .int .i64 t267] 43 (0, 0)) (by (with_reducible repeat (first | refine bkN ?_ _ | refine bkd ?_ | refine bka ?_ _)); refine blk_put (cs := #[.int .i64 t266, .int .i64 0]) ?_ 1 _ rfl; (with_reducible repeat (first | refine bkN ?_ _ | refine bkd ?_ | refine bka ?_ _)); refine blk_put (cs := #[.int .i64 0, .int .i64 0]) ?_ 0 _ rfl; (with_reducible repeat (first | refine bkN ?_ _ | refine bkd ?_ | refine bka ?_ _)); exact BK268.out) hb); have n1_ := As0.mk (bst (by repeat (first | (with_reducible first | exact HB.out | apply bal | apply pwB_ | apply bd1 | refine bse ?_ GE268.out) | exact HB.out)) hb); clear BK268; clear HB; have BK268 := n0_; have HB := n1_; clear n0_ n1_; (try clear hb); (try clear hb2); (try clear hk); (try clear hi)))
   go_meet
   case rel => exact ⟨_, (true), (by first | rfl | (simp; done) | (simp [*]; done)), H', ⟨by first | omega | exact Nat.le_refl _⟩, ⟨by (with_reducible repeat (first | refine bkN ?_ _ | refine bkd ?_ | refine bka ?_ _)); exact BK268.out⟩, ⟨by repeat (first | (with_reducible first | exact HB.out | apply bal | apply pwB_ | apply bd1 | refine bse ?_ GE268.out) | exact HB.out)⟩⟩
  ·replace c11 := Bool.eq_false_iff.mpr c11
   subst c11
   have H1 : (if a1 < 1 then (floats_Rel.j0 k a1 a2 a3 true t266 t267) else (floats_Rel.j0 k a1 a2 a3 (decide (a1 > 6)) t266 t267)) = some (r1, r2) := by rw [if_neg (show ¬ (false = true) by decide)] at H; exact H
   clear H
   have H := H1
   clear H1
   by_cases c14 : a1 < 1
   ·rw [if_pos c14] at H
    have c14b0 : decide (a1 < 1) = true := decide_eq_true c14
    clear c14
    (first | rw [c14b0] | (simp only [i64_w, i32_w]; rw [c14b0]) | skip)
    have H' := As0.mk H
    clear H
    have hcz15_0 : w8.cell? ⟨gb268, 0, none⟩ = some (.int .i64 0) := (bce BK268.out 0).trans rfl
    have hcz15_1 : w8.cell? ⟨gb268, 1, none⟩ = some (.int .i64 0) := (bce BK268.out 1).trans rfl
    have hfz15_0 := bkf BK268.out 0
    have hfz15_1 := bkf BK268.out 1
    go_wp2_with (first | ((with_reducible refine gcl (f := 32) rfl ?_); refine goesL_ (some 16) rfl rfl Try.func32 (by kernel_rfl) rfl #[.agg #[.int .i64 t266, .int .i64 t267]] rfl (by (try simp only [zmt, zmc, zmn]); first | done | rfl) ?_; (with_reducible refine (ff_none.calls t266 t267 false _ A10.out).mono ?_); rintro e w16 ⟨rfl, hb⟩; refine ⟨_, rfl, ?_⟩; have n0_ := As0.mk (bkb (g := gb268) (o := .cells #[.int .i64 t266, .int .i64 t267] 43 (0, 0)) (by (with_reducible repeat (first | refine bkN ?_ _ | refine bkd ?_ | refine bka ?_ _)); refine blk_put (cs := #[.int .i64 t266, .int .i64 0]) ?_ 1 _ rfl; (with_reducible repeat (first | refine bkN ?_ _ | refine bkd ?_ | refine bka ?_ _)); refine blk_put (cs := #[.int .i64 0, .int .i64 0]) ?_ 0 _ rfl; (with_reducible repeat (first | refine bkN ?_ _ | refine bkd ?_ | refine bka ?_ _)); exact BK268.out) hb); have n1_ := As0.mk (bst (by repeat (first | (with_reducible first | exact HB.out | apply bal | apply pwB_ | apply bd1 | refine bse ?_ GE268.out) | exact HB.out)) hb); clear BK268; clear HB; have BK268 := n0_; have HB := n1_; clear n0_ n1_; (try clear hb); (try clear hb2); (try clear hk); (try clear hi)))
    go_meet
    case rel => exact ⟨_, (true), (by first | rfl | (simp; done) | (simp [*]; done)), H', ⟨by first | omega | exact Nat.le_refl _⟩, ⟨by (with_reducible repeat (first | refine bkN ?_ _ | refine bkd ?_ | refine bka ?_ _)); exact BK268.out⟩, ⟨by repeat (first | (with_reducible first | exact HB.out | apply bal | apply pwB_ | apply bd1 | refine bse ?_ GE268.out) | exact HB.out)⟩⟩
   ·rw [if_neg c14] at H
    have c14b0 : decide (a1 < 1) = false := decide_eq_false c14
    clear c14
    (first | rw [c14b0] | (simp only [i64_w, i32_w]; rw [c14b0]) | skip)
    have H' := As0.mk H
    clear H
    have hcz17_0 : w8.cell? ⟨gb268, 0, none⟩ = some (.int .i64 0) := (bce BK268.out 0).trans rfl
    have hcz17_1 : w8.cell? ⟨gb268, 1, none⟩ = some (.int .i64 0) := (bce BK268.out 1).trans rfl
    have hfz17_0 := bkf BK268.out 0
    have hfz17_1 := bkf BK268.out 1
    go_wp2_with (first | ((with_reducible refine gcl (f := 32) rfl ?_); refine goesL_ (some 16) rfl rfl Try.func32 (by kernel_rfl) rfl #[.agg #[.int .i64 t266, .int .i64 t267]] rfl (by (try simp only [zmt, zmc, zmn]); first | done | rfl) ?_; (with_reducible refine (ff_none.calls t266 t267 false _ A10.out).mono ?_); rintro e w18 ⟨rfl, hb⟩; refine ⟨_, rfl, ?_⟩; have n0_ := As0.mk (bkb (g := gb268) (o := .cells #[.int .i64 t266, .int .i64 t267] 43 (0, 0)) (by (with_reducible repeat (first | refine bkN ?_ _ | refine bkd ?_ | refine bka ?_ _)); refine blk_put (cs := #[.int .i64 t266, .int .i64 0]) ?_ 1 _ rfl; (with_reducible repeat (first | refine bkN ?_ _ | refine bkd ?_ | refine bka ?_ _)); refine blk_put (cs := #[.int .i64 0, .int .i64 0]) ?_ 0 _ rfl; (with_reducible repeat (first | refine bkN ?_ _ | refine bkd ?_ | refine bka ?_ _)); exact BK268.out) hb); have n1_ := As0.mk (bst (by repeat (first | (with_reducible first | exact HB.out | apply bal | apply pwB_ | apply bd1 | refine bse ?_ GE268.out) | exact HB.out)) hb); clear BK268; clear HB; have BK268 := n0_; have HB := n1_; clear n0_ n1_; (try clear hb); (try clear hb2); (try clear hk); (try clear hi)))
    go_meet
    case rel => exact ⟨_, (decide (a1 > 6)), (by first | rfl | (simp; done) | (simp [*]; done)), H', ⟨by first | omega | exact Nat.le_refl _⟩, ⟨by (with_reducible repeat (first | refine bkN ?_ _ | refine bkd ?_ | refine bka ?_ _)); exact BK268.out⟩, ⟨by repeat (first | (with_reducible first | exact HB.out | apply bal | apply pwB_ | apply bd1 | refine bse ?_ GE268.out) | exact HB.out)⟩⟩
 case rest =>
  clear HC6
  try clear c1
  try clear c2
  try clear p2
  try clear c3
  try clear c11
  try clear c14
  try clear c14b0
  try clear hcz12_0
  try clear hcz12_1
  try clear hcz15_0
  try clear hcz15_1
  try clear hcz17_0
  try clear hcz17_1
  try clear hcz9_0
  try clear hcz9_1
  try clear hfz12_0
  try clear hfz12_1
  try clear hfz15_0
  try clear hfz15_1
  try clear hfz17_0
  try clear hfz17_1
  try clear hfz9_0
  try clear hfz9_1
  obtain ⟨kq, x24_5, rfl, HA, HJ5, BK268, HB⟩ := hcut
  cases kq with
  | zero => exact absurd HA.out (by simp [floats_Rel.j0])
  | succ kj5 =>
   have H := HA.out
   clear HA
   simp only [floats_Rel.j0] at H
   by_cases c19 : x24_5 = true
   ·subst c19
    have H1 : (some (false, 1)) = some (r1, r2) := by rw [if_pos rfl] at H; exact H
    clear H
    have H := H1
    clear H1
    simp only [Option.some.injEq, Prod.mk.injEq] at H
    obtain ⟨rfl, rfl⟩ := H
    go_wp2
    go_ret2
    exact ⟨by first | rfl | (simp [*] <;> rfl), by repeat (first | (with_reducible first | exact HB.out | apply bal | apply pwB_ | apply bd1 | refine bse ?_ GE268.out) | exact HB.out)⟩
   ·replace c19 := Bool.eq_false_iff.mpr c19
    subst c19
    have H1 : ((ff_isNaN.f t266 t267 a2).bind fun t270 => (if t270 = true then (floats_Rel.j1 kj5 a1 a2 a3 true t266 t267) else ((ff_isNaN.f t266 t267 a3).bind fun t271 => (floats_Rel.j1 kj5 a1 a2 a3 t271 t266 t267)))) = some (r1, r2) := by rw [if_neg (show ¬ (false = true) by decide)] at H; exact H
    clear H
    have H := H1
    clear H1
    have HC20 := As0.mk H
    clear H
    go_upto_region 4 with (fail)
    go_cut [32] (fun v32 wc => ∃ (kq : Nat) (x32_19 : Bool), v32 = .bool x32_19 ∧ As0 (floats_Rel.j1 kq a1 a2 a3 x32_19 t266 t267 = some (r1, r2)) ∧ As0 (kq ≤ kj5) ∧ As0 (wc.heap[gb268]? = some (.cells #[.int .i64 t266, .int .i64 t267] 43 (0, 0))) ∧ As0 (Below w.heap.size w wc))
    case first =>
     have H := HC20.out
     clear HC20
     replace H := zob H
     obtain ⟨t270, A210, H⟩ := H
     replace H : (if t270 = true then (floats_Rel.j1 kj5 a1 a2 a3 true t266 t267) else ((ff_isNaN.f t266 t267 a3).bind fun t271 => (floats_Rel.j1 kj5 a1 a2 a3 t271 t266 t267))) = some (r1, r2) := H
     have A21 := As0.mk A210
     clear A210
     by_cases c22 : t270 = true
     ·subst c22
      have H1 : (floats_Rel.j1 kj5 a1 a2 a3 true t266 t267) = some (r1, r2) := by rw [if_pos rfl] at H; exact H
      clear H
      have H := H1
      clear H1
      have H' := As0.mk H
      clear H
      have hcz23_0 : wc.cell? ⟨gb268, 0, none⟩ = some (.int .i64 t266) := (bce BK268.out 0).trans rfl
      have hcz23_1 : wc.cell? ⟨gb268, 1, none⟩ = some (.int .i64 t267) := (bce BK268.out 1).trans rfl
      have hfz23_0 := bkf BK268.out 0
      have hfz23_1 := bkf BK268.out 1
      go_wp2_with (first | ((with_reducible refine gcl (f := 37) rfl ?_); refine goesL_ (some 27) rfl rfl Try.func37 (by kernel_rfl) rfl #[.agg #[.int .i64 t266, .int .i64 t267], .int .u64 a2] rfl (by (try simp only [zmt, zmc, zmn]); first | done | rfl) ?_; (with_reducible refine (ff_isNaN.calls t266 t267 a2 true _ A21.out).mono ?_); rintro e w24 ⟨rfl, hb⟩; refine ⟨_, rfl, ?_⟩; have n0_ := As0.mk (bkb (g := gb268) (o := .cells #[.int .i64 t266, .int .i64 t267] 43 (0, 0)) (by (with_reducible repeat (first | refine bkN ?_ _ | refine bkd ?_ | refine bka ?_ _)); exact BK268.out) hb); have n1_ := As0.mk (bst (by repeat (first | (with_reducible first | exact HB.out | apply bal | apply pwB_ | apply bd1 | refine bse ?_ GE268.out) | exact HB.out)) hb); clear BK268; clear HB; have BK268 := n0_; have HB := n1_; clear n0_ n1_; (try clear hb); (try clear hb2); (try clear hk); (try clear hi)))
      go_meet
      case rel => exact ⟨_, (true), (by first | rfl | (simp; done) | (simp [*]; done)), H', ⟨by have := HJ5.out; first | omega | exact Nat.le_refl _⟩, ⟨by (with_reducible repeat (first | refine bkN ?_ _ | refine bkd ?_ | refine bka ?_ _)); exact BK268.out⟩, ⟨by repeat (first | (with_reducible first | exact HB.out | apply bal | apply pwB_ | apply bd1 | refine bse ?_ GE268.out) | exact HB.out)⟩⟩
     ·replace c22 := Bool.eq_false_iff.mpr c22
      subst c22
      have H1 : ((ff_isNaN.f t266 t267 a3).bind fun t271 => (floats_Rel.j1 kj5 a1 a2 a3 t271 t266 t267)) = some (r1, r2) := by rw [if_neg (show ¬ (false = true) by decide)] at H; exact H
      clear H
      have H := H1
      clear H1
      replace H := zob H
      obtain ⟨t271, A250, H⟩ := H
      replace H : (floats_Rel.j1 kj5 a1 a2 a3 t271 t266 t267) = some (r1, r2) := H
      have A25 := As0.mk A250
      clear A250
      have H' := As0.mk H
      clear H
      have hcz26_0 : wc.cell? ⟨gb268, 0, none⟩ = some (.int .i64 t266) := (bce BK268.out 0).trans rfl
      have hcz26_1 : wc.cell? ⟨gb268, 1, none⟩ = some (.int .i64 t267) := (bce BK268.out 1).trans rfl
      have hfz26_0 := bkf BK268.out 0
      have hfz26_1 := bkf BK268.out 1
      go_wp2_with (first | ((with_reducible refine gcl (f := 37) rfl ?_); refine goesL_ (some 27) rfl rfl Try.func37 (by kernel_rfl) rfl #[.agg #[.int .i64 t266, .int .i64 t267], .int .u64 a2] rfl (by (try simp only [zmt, zmc, zmn]); first | done | rfl) ?_; (with_reducible refine (ff_isNaN.calls t266 t267 a2 false _ A21.out).mono ?_); rintro e w27 ⟨rfl, hb⟩; refine ⟨_, rfl, ?_⟩; have n0_ := As0.mk (bkb (g := gb268) (o := .cells #[.int .i64 t266, .int .i64 t267] 43 (0, 0)) (by (with_reducible repeat (first | refine bkN ?_ _ | refine bkd ?_ | refine bka ?_ _)); exact BK268.out) hb); have n1_ := As0.mk (bst (by repeat (first | (with_reducible first | exact HB.out | apply bal | apply pwB_ | apply bd1 | refine bse ?_ GE268.out) | exact HB.out)) hb); clear BK268; clear HB; have BK268 := n0_; have HB := n1_; clear n0_ n1_; (try clear hb); (try clear hb2); (try clear hk); (try clear hi); have hcz28_0 : w27.cell? ⟨gb268, 0, none⟩ = some (.int .i64 t266) := (bce BK268.out 0).trans rfl; have hcz28_1 : w27.cell? ⟨gb268, 1, none⟩ = some (.int .i64 t267) := (bce BK268.out 1).trans rfl; have hfz28_0 := bkf BK268.out 0; have hfz28_1 := bkf BK268.out 1) | (go_at_call 37; (with_reducible refine (ff_isNaN.calls t266 t267 a3 t271 _ A25.out).mono ?_); rintro e w29 ⟨rfl, hb⟩; have n0_ := As0.mk (bkb (g := gb268) (o := .cells #[.int .i64 t266, .int .i64 t267] 43 (0, 0)) (by (with_reducible repeat (first | refine bkN ?_ _ | refine bkd ?_ | refine bka ?_ _)); exact BK268.out) hb); have n1_ := As0.mk (bst (by repeat (first | (with_reducible first | exact HB.out | apply bal | apply pwB_ | apply bd1 | refine bse ?_ GE268.out) | exact HB.out)) hb); clear BK268; clear HB; have BK268 := n0_; have HB := n1_; clear n0_ n1_; (try clear hb); (try clear hb2); (try clear hk); (try clear hi)))
      go_meet
      case rel => exact ⟨_, (t271), (by first | rfl | (simp; done) | (simp [*]; done)), H', ⟨by have := HJ5.out; first | omega | exact Nat.le_refl _⟩, ⟨by (with_reducible repeat (first | refine bkN ?_ _ | refine bkd ?_ | refine bka ?_ _)); exact BK268.out⟩, ⟨by repeat (first | (with_reducible first | exact HB.out | apply bal | apply pwB_ | apply bd1 | refine bse ?_ GE268.out) | exact HB.out)⟩⟩
    case rest =>
     clear HC20
     try clear c1
     try clear c2
     try clear p2
     try clear c3
     try clear c11
     try clear c14
     try clear c14b0
     try clear c19
     try clear c21
     try clear c22
     try clear hcz12_0
     try clear hcz12_1
     try clear hcz15_0
     try clear hcz15_1
     try clear hcz17_0
     try clear hcz17_1
     try clear hcz23_0
     try clear hcz23_1
     try clear hcz26_0
     try clear hcz26_1
     try clear hcz28_0
     try clear hcz28_1
     try clear hcz9_0
     try clear hcz9_1
     try clear hfz12_0
     try clear hfz12_1
     try clear hfz15_0
     try clear hfz15_1
     try clear hfz17_0
     try clear hfz17_1
     try clear hfz23_0
     try clear hfz23_1
     try clear hfz26_0
     try clear hfz26_1
     try clear hfz28_0
     try clear hfz28_1
     try clear hfz9_0
     try clear hfz9_1
     try clear p2
     obtain ⟨kq, x32_19, rfl, HA, HJ19, BK268, HB⟩ := hcut
     cases kq with
     | zero => exact absurd HA.out (by simp [floats_Rel.j1])
     | succ kj19 =>
      have H := HA.out
      clear HA
      simp only [floats_Rel.j1] at H
      by_cases c30 : x32_19 = true
      ·subst c30
       have H1 : (some ((a1 == 2), 0)) = some (r1, r2) := by rw [if_pos rfl] at H; exact H
       clear H
       have H := H1
       clear H1
       simp only [Option.some.injEq, Prod.mk.injEq] at H
       obtain ⟨rfl, rfl⟩ := H
       go_wp2
       go_ret2
       exact ⟨by first | rfl | (simp [*] <;> rfl), by repeat (first | (with_reducible first | exact HB.out | apply bal | apply pwB_ | apply bd1 | refine bse ?_ GE268.out) | exact HB.out)⟩
      ·replace c30 := Bool.eq_false_iff.mpr c30
       subst c30
       have H1 : ((ff_less.f t266 t267 a2 a3).bind fun t272 => ((ff_less.f t266 t267 a3 a2).bind fun t273 => (if a1 = 1 then (if t272 = true then (some (false, 0)) else (some (!t273, 0))) else (if a1 = 2 then (if t272 = true then (some (true, 0)) else (some (t273, 0))) else (if a1 = 3 then (some (t272, 0)) else (if a1 = 4 then (some (t273, 0)) else (if a1 = 5 then (some (!t273, 0)) else (some (!t272, 0))))))))) = some (r1, r2) := by rw [if_neg (show ¬ (false = true) by decide)] at H; exact H
       clear H
       have H := H1
       clear H1
       replace H := zob H
       obtain ⟨t272, A310, H⟩ := H
       replace H : ((ff_less.f t266 t267 a3 a2).bind fun t273 => (if a1 = 1 then (if t272 = true then (some (false, 0)) else (some (!t273, 0))) else (if a1 = 2 then (if t272 = true then (some (true, 0)) else (some (t273, 0))) else (if a1 = 3 then (some (t272, 0)) else (if a1 = 4 then (some (t273, 0)) else (if a1 = 5 then (some (!t273, 0)) else (some (!t272, 0)))))))) = some (r1, r2) := H
       have A31 := As0.mk A310
       clear A310
       replace H := zob H
       obtain ⟨t273, A320, H⟩ := H
       replace H : (if a1 = 1 then (if t272 = true then (some (false, 0)) else (some (!t273, 0))) else (if a1 = 2 then (if t272 = true then (some (true, 0)) else (some (t273, 0))) else (if a1 = 3 then (some (t272, 0)) else (if a1 = 4 then (some (t273, 0)) else (if a1 = 5 then (some (!t273, 0)) else (some (!t272, 0))))))) = some (r1, r2) := H
       have A32 := As0.mk A320
       clear A320
       by_cases c33 : a1 = 1
       ·rw [if_pos c33] at H
        have c33b0 : (a1 == 1) = true := beq_iff_eq.mpr c33
        have c33b1 : (a1 != 1) = false := bne_eq_false_iff_eq.mpr c33
        clear c33
        by_cases c34 : t272 = true
        ·subst c34
         have H1 : (some (false, 0)) = some (r1, r2) := by rw [if_pos rfl] at H; exact H
         clear H
         have H := H1
         clear H1
         simp only [Option.some.injEq, Prod.mk.injEq] at H
         obtain ⟨rfl, rfl⟩ := H
         try go_wp2
         have n0_ := As0.mk (bkd BK268.out)
         have n1_ := As0.mk (bd1 HB.out)
         clear BK268
         clear HB
         have BK268 := n0_
         have HB := n1_
         clear n0_ n1_
         refine start_ (n := 10) (S := fun w' => w'.cell? ⟨gb268, 0, none⟩ = some (.int .i64 t266) ∧ w'.cell? ⟨gb268, 1, none⟩ = some (.int .i64 t267)) (ds := []) #[false, false, false, false, false, false, false, false, false, false] (by kernel_rfl) rfl rfl ⟨(bce BK268.out 0).trans rfl, (bce BK268.out 1).trans rfl⟩ (fun hHeld => ?_); refine with_tabW floats_Rel.tab6 floats_Rel.bits6 (fun HT_ HW_ => ?_)
         generalize wc.drew = w35 at BK268 HB hHeld ⊢
         refine pure_ (i := 1) (N := some 36) (v := ?_) (a' := ?_) #[false, true, false, false, false, false, false, false, false, false] rfl rfl (any_of HT_.out (by kernel_rfl)) (fun _ _ _ h => h) (Or.inl ⟨by rfl, ?_⟩) ?_ ?_
         rotate_left
         ·intro w'
          go_simp
          with_reducible rfl
         rotate_left
         ·simp only [Act.put, zsi, zcz, zcs, i64_w, i32_w]
          rfl
         refine pure_ (i := 2) (N := some 37) (v := ?_) (a' := ?_) #[false, true, true, false, false, false, false, false, false, false] rfl rfl (any_of HT_.out (by kernel_rfl)) (fun _ _ _ h => h) (Or.inl ⟨by rfl, ?_⟩) ?_ ?_
         rotate_left
         ·intro w'
          go_simp
          with_reducible rfl
         rotate_left
         ·simp only [Act.put, zsi, zcz, zcs, i64_w, i32_w]
          rfl
         refine pure_ (i := 5) (N := some 40) (v := ?_) (a' := ?_) #[false, true, true, false, false, true, false, false, false, false] rfl rfl (any_of HT_.out (by kernel_rfl)) (fun _ _ _ h => h) (Or.inl ⟨by rfl, ?_⟩) ?_ ?_
         rotate_left
         ·intro w'
          go_simp
          with_reducible rfl
         rotate_left
         ·simp only [Act.put, zsi, zcz, zcs, i64_w, i32_w]
          rfl
         refine pure_ (i := 6) (N := some 41) (v := ?_) (a' := ?_) #[false, true, true, false, false, true, true, false, false, false] rfl rfl (any_of HT_.out (by kernel_rfl)) (fun _ _ _ h => h) (Or.inl ⟨by rfl, ?_⟩) ?_ ?_
         rotate_left
         ·intro w'
          go_simp
          with_reducible rfl
         rotate_left
         ·simp only [Act.put, zsi, zcz, zcs, i64_w, i32_w]
          rfl
         refine take_ (i := 0) (N := some 35) (v := ?_) (a' := ?_) #[true, true, true, false, false, true, true, false, false, false] rfl rfl (take_ofW HT_.out HW_.out (by kernel_rfl)) (fun _ _ _ h => h) (Or.inl ⟨by rfl, ?_⟩) hHeld ?_ ?_
         rotate_left
         ·rintro w' ⟨s0, s1⟩
          go_simp
          with_reducible rfl
         rotate_left
         ·simp only [Act.put, zsi, zcz, zcs, i64_w, i32_w]
          rfl
         refine take_ (i := 4) (N := some 39) (v := ?_) (a' := ?_) #[true, true, true, false, true, true, true, false, false, false] rfl rfl (take_ofW HT_.out HW_.out (by kernel_rfl)) (fun _ _ _ h => h) (Or.inl ⟨by rfl, ?_⟩) hHeld ?_ ?_
         rotate_left
         ·rintro w' ⟨s0, s1⟩
          go_simp
          with_reducible rfl
         rotate_left
         ·simp only [Act.put, zsi, zcz, zcs, i64_w, i32_w]
          rfl
         refine one_ (i := 3) (N := some 38) #[true, true, true, true, true, true, true, false, false, false] rfl rfl (one_of HT_.out (by kernel_rfl)) (by decide) (fun K hK => ?_)
         refine goes_ Try.func41 (by kernel_rfl) rfl #[.agg #[.int .i64 t266, .int .i64 t267], .int .u64 a2, .int .u64 a3] (by rfl) rfl rfl (by (try simp only [zmt, zmc, zmn]); first | done | rfl) ?_
         with_reducible refine (ff_less.calls t266 t267 a2 a3 true _ A31.out).mono ?_
         rintro e w36 ⟨rfl, hb⟩
         refine ⟨_, rfl, ?_⟩
         have n0_ := As0.mk (bkb (g := gb268) (o := .cells #[.int .i64 t266, .int .i64 t267] 43 (0, 0)) (by (with_reducible repeat (first | refine bkN ?_ _ | refine bkd ?_ | refine bka ?_ _)); exact BK268.out) hb)
         have n1_ := As0.mk (bst (by repeat (first | (with_reducible first | exact HB.out | apply bal | apply pwB_ | apply bd1 | refine bse ?_ GE268.out) | exact HB.out)) hb)
         clear BK268
         clear HB
         have BK268 := n0_
         have HB := n1_
         clear n0_ n1_
         (try clear hb)
         (try clear hb2)
         (try clear hk)
         (try clear hi)
         refine hK.out _ _ ⟨(bce BK268.out 0).trans rfl, (bce BK268.out 1).trans rfl⟩ (fun hHeld => ?_)
         clear hK K
         refine norm_ (a' := ?_) ?_ ?_
         rotate_left
         ·show Act.put _ (some 38) _ = _
          simp only [Act.put, zsi, zcz, zcs, i64_w, i32_w]
          rfl
         refine one_ (i := 7) (N := some 42) #[true, true, true, true, true, true, true, true, false, false] rfl rfl (one_of HT_.out (by kernel_rfl)) (by decide) (fun K hK => ?_)
         refine goes_ Try.func41 (by kernel_rfl) rfl #[.agg #[.int .i64 t266, .int .i64 t267], .int .u64 a3, .int .u64 a2] (by rfl) rfl rfl (by (try simp only [zmt, zmc, zmn]); first | done | rfl) ?_
         with_reducible refine (ff_less.calls t266 t267 a3 a2 t273 _ A32.out).mono ?_
         rintro e w37 ⟨rfl, hb⟩
         refine ⟨_, rfl, ?_⟩
         have n0_ := As0.mk (bkb (g := gb268) (o := .cells #[.int .i64 t266, .int .i64 t267] 43 (0, 0)) (by (with_reducible repeat (first | refine bkN ?_ _ | refine bkd ?_ | refine bka ?_ _)); exact BK268.out) hb)
         have n1_ := As0.mk (bst (by repeat (first | (with_reducible first | exact HB.out | apply bal | apply pwB_ | apply bd1 | refine bse ?_ GE268.out) | exact HB.out)) hb)
         clear BK268
         clear HB
         have BK268 := n0_
         have HB := n1_
         clear n0_ n1_
         (try clear hb)
         (try clear hb2)
         (try clear hk)
         (try clear hi)
         refine hK.out _ _ ⟨(bce BK268.out 0).trans rfl, (bce BK268.out 1).trans rfl⟩ (fun hHeld => ?_)
         clear hK K
         refine norm_ (a' := ?_) ?_ ?_
         rotate_left
         ·show Act.put _ (some 42) _ = _
          simp only [Act.put, zsi, zcz, zcs, i64_w, i32_w]
          rfl
         refine pure_ (i := 8) (N := some 11) (v := ?_) (a' := ?_) #[true, true, true, true, true, true, true, true, true, false] rfl rfl (any_of HT_.out (by kernel_rfl)) (fun _ _ _ h => h) (Or.inl ⟨by rfl, ?_⟩) ?_ ?_
         rotate_left
         ·intro w'
          go_simp
          with_reducible rfl
         rotate_left
         ·simp only [Act.put, zsi, zcz, zcs, i64_w, i32_w]
          rfl
         refine pure_ (i := 9) (N := some 12) (v := ?_) (a' := ?_) #[true, true, true, true, true, true, true, true, true, true] rfl rfl (any_of HT_.out (by kernel_rfl)) (fun _ _ _ h => h) (Or.inl ⟨by rfl, ?_⟩) ?_ ?_
         rotate_left
         ·intro w'
          go_simp
          with_reducible rfl
         rotate_left
         ·simp only [Act.put, zsi, zcz, zcs, i64_w, i32_w]
          rfl
         refine done_ (done_of HT_.out (by kernel_rfl)) ?_
         try go_wp2
         go_ret2
         exact ⟨by first | rfl | (simp [*] <;> rfl), by repeat (first | (with_reducible first | exact HB.out | apply bal | apply pwB_ | apply bd1 | refine bse ?_ GE268.out) | exact HB.out)⟩
        ·replace c34 := Bool.eq_false_iff.mpr c34
         subst c34
         have H1 : (some (!t273, 0)) = some (r1, r2) := by rw [if_neg (show ¬ (false = true) by decide)] at H; exact H
         clear H
         have H := H1
         clear H1
         simp only [Option.some.injEq, Prod.mk.injEq] at H
         obtain ⟨rfl, rfl⟩ := H
         try go_wp2
         have n0_ := As0.mk (bkd BK268.out)
         have n1_ := As0.mk (bd1 HB.out)
         clear BK268
         clear HB
         have BK268 := n0_
         have HB := n1_
         clear n0_ n1_
         refine start_ (n := 10) (S := fun w' => w'.cell? ⟨gb268, 0, none⟩ = some (.int .i64 t266) ∧ w'.cell? ⟨gb268, 1, none⟩ = some (.int .i64 t267)) (ds := []) #[false, false, false, false, false, false, false, false, false, false] (by kernel_rfl) rfl rfl ⟨(bce BK268.out 0).trans rfl, (bce BK268.out 1).trans rfl⟩ (fun hHeld => ?_); refine with_tabW floats_Rel.tab6 floats_Rel.bits6 (fun HT_ HW_ => ?_)
         generalize wc.drew = w38 at BK268 HB hHeld ⊢
         refine pure_ (i := 1) (N := some 36) (v := ?_) (a' := ?_) #[false, true, false, false, false, false, false, false, false, false] rfl rfl (any_of HT_.out (by kernel_rfl)) (fun _ _ _ h => h) (Or.inl ⟨by rfl, ?_⟩) ?_ ?_
         rotate_left
         ·intro w'
          go_simp
          with_reducible rfl
         rotate_left
         ·simp only [Act.put, zsi, zcz, zcs, i64_w, i32_w]
          rfl
         refine pure_ (i := 2) (N := some 37) (v := ?_) (a' := ?_) #[false, true, true, false, false, false, false, false, false, false] rfl rfl (any_of HT_.out (by kernel_rfl)) (fun _ _ _ h => h) (Or.inl ⟨by rfl, ?_⟩) ?_ ?_
         rotate_left
         ·intro w'
          go_simp
          with_reducible rfl
         rotate_left
         ·simp only [Act.put, zsi, zcz, zcs, i64_w, i32_w]
          rfl
         refine pure_ (i := 5) (N := some 40) (v := ?_) (a' := ?_) #[false, true, true, false, false, true, false, false, false, false] rfl rfl (any_of HT_.out (by kernel_rfl)) (fun _ _ _ h => h) (Or.inl ⟨by rfl, ?_⟩) ?_ ?_
         rotate_left
         ·intro w'
          go_simp
          with_reducible rfl
         rotate_left
         ·simp only [Act.put, zsi, zcz, zcs, i64_w, i32_w]
          rfl
         refine pure_ (i := 6) (N := some 41) (v := ?_) (a' := ?_) #[false, true, true, false, false, true, true, false, false, false] rfl rfl (any_of HT_.out (by kernel_rfl)) (fun _ _ _ h => h) (Or.inl ⟨by rfl, ?_⟩) ?_ ?_
         rotate_left
         ·intro w'
          go_simp
          with_reducible rfl
         rotate_left
         ·simp only [Act.put, zsi, zcz, zcs, i64_w, i32_w]
          rfl
         refine take_ (i := 0) (N := some 35) (v := ?_) (a' := ?_) #[true, true, true, false, false, true, true, false, false, false] rfl rfl (take_ofW HT_.out HW_.out (by kernel_rfl)) (fun _ _ _ h => h) (Or.inl ⟨by rfl, ?_⟩) hHeld ?_ ?_
         rotate_left
         ·rintro w' ⟨s0, s1⟩
          go_simp
          with_reducible rfl
         rotate_left
         ·simp only [Act.put, zsi, zcz, zcs, i64_w, i32_w]
          rfl
         refine take_ (i := 4) (N := some 39) (v := ?_) (a' := ?_) #[true, true, true, false, true, true, true, false, false, false] rfl rfl (take_ofW HT_.out HW_.out (by kernel_rfl)) (fun _ _ _ h => h) (Or.inl ⟨by rfl, ?_⟩) hHeld ?_ ?_
         rotate_left
         ·rintro w' ⟨s0, s1⟩
          go_simp
          with_reducible rfl
         rotate_left
         ·simp only [Act.put, zsi, zcz, zcs, i64_w, i32_w]
          rfl
         refine one_ (i := 3) (N := some 38) #[true, true, true, true, true, true, true, false, false, false] rfl rfl (one_of HT_.out (by kernel_rfl)) (by decide) (fun K hK => ?_)
         refine goes_ Try.func41 (by kernel_rfl) rfl #[.agg #[.int .i64 t266, .int .i64 t267], .int .u64 a2, .int .u64 a3] (by rfl) rfl rfl (by (try simp only [zmt, zmc, zmn]); first | done | rfl) ?_
         with_reducible refine (ff_less.calls t266 t267 a2 a3 false _ A31.out).mono ?_
         rintro e w39 ⟨rfl, hb⟩
         refine ⟨_, rfl, ?_⟩
         have n0_ := As0.mk (bkb (g := gb268) (o := .cells #[.int .i64 t266, .int .i64 t267] 43 (0, 0)) (by (with_reducible repeat (first | refine bkN ?_ _ | refine bkd ?_ | refine bka ?_ _)); exact BK268.out) hb)
         have n1_ := As0.mk (bst (by repeat (first | (with_reducible first | exact HB.out | apply bal | apply pwB_ | apply bd1 | refine bse ?_ GE268.out) | exact HB.out)) hb)
         clear BK268
         clear HB
         have BK268 := n0_
         have HB := n1_
         clear n0_ n1_
         (try clear hb)
         (try clear hb2)
         (try clear hk)
         (try clear hi)
         refine hK.out _ _ ⟨(bce BK268.out 0).trans rfl, (bce BK268.out 1).trans rfl⟩ (fun hHeld => ?_)
         clear hK K
         refine norm_ (a' := ?_) ?_ ?_
         rotate_left
         ·show Act.put _ (some 38) _ = _
          simp only [Act.put, zsi, zcz, zcs, i64_w, i32_w]
          rfl
         refine one_ (i := 7) (N := some 42) #[true, true, true, true, true, true, true, true, false, false] rfl rfl (one_of HT_.out (by kernel_rfl)) (by decide) (fun K hK => ?_)
         refine goes_ Try.func41 (by kernel_rfl) rfl #[.agg #[.int .i64 t266, .int .i64 t267], .int .u64 a3, .int .u64 a2] (by rfl) rfl rfl (by (try simp only [zmt, zmc, zmn]); first | done | rfl) ?_
         with_reducible refine (ff_less.calls t266 t267 a3 a2 t273 _ A32.out).mono ?_
         rintro e w40 ⟨rfl, hb⟩
         refine ⟨_, rfl, ?_⟩
         have n0_ := As0.mk (bkb (g := gb268) (o := .cells #[.int .i64 t266, .int .i64 t267] 43 (0, 0)) (by (with_reducible repeat (first | refine bkN ?_ _ | refine bkd ?_ | refine bka ?_ _)); exact BK268.out) hb)
         have n1_ := As0.mk (bst (by repeat (first | (with_reducible first | exact HB.out | apply bal | apply pwB_ | apply bd1 | refine bse ?_ GE268.out) | exact HB.out)) hb)
         clear BK268
         clear HB
         have BK268 := n0_
         have HB := n1_
         clear n0_ n1_
         (try clear hb)
         (try clear hb2)
         (try clear hk)
         (try clear hi)
         refine hK.out _ _ ⟨(bce BK268.out 0).trans rfl, (bce BK268.out 1).trans rfl⟩ (fun hHeld => ?_)
         clear hK K
         refine norm_ (a' := ?_) ?_ ?_
         rotate_left
         ·show Act.put _ (some 42) _ = _
          simp only [Act.put, zsi, zcz, zcs, i64_w, i32_w]
          rfl
         refine pure_ (i := 8) (N := some 11) (v := ?_) (a' := ?_) #[true, true, true, true, true, true, true, true, true, false] rfl rfl (any_of HT_.out (by kernel_rfl)) (fun _ _ _ h => h) (Or.inl ⟨by rfl, ?_⟩) ?_ ?_
         rotate_left
         ·intro w'
          go_simp
          with_reducible rfl
         rotate_left
         ·simp only [Act.put, zsi, zcz, zcs, i64_w, i32_w]
          rfl
         refine pure_ (i := 9) (N := some 12) (v := ?_) (a' := ?_) #[true, true, true, true, true, true, true, true, true, true] rfl rfl (any_of HT_.out (by kernel_rfl)) (fun _ _ _ h => h) (Or.inl ⟨by rfl, ?_⟩) ?_ ?_
         rotate_left
         ·intro w'
          go_simp
          with_reducible rfl
         rotate_left
         ·simp only [Act.put, zsi, zcz, zcs, i64_w, i32_w]
          rfl
         refine done_ (done_of HT_.out (by kernel_rfl)) ?_
         try go_wp2
         go_ret2
         exact ⟨by first | rfl | (simp [*] <;> rfl), by repeat (first | (with_reducible first | exact HB.out | apply bal | apply pwB_ | apply bd1 | refine bse ?_ GE268.out) | exact HB.out)⟩
       ·rw [if_neg c33] at H
        have c33b0 : (a1 == 1) = false := beq_eq_false_iff_ne.mpr c33
        have c33b1 : (a1 != 1) = true := bne_iff_ne.mpr c33
        by_cases c41 : a1 = 2
        ·rw [if_pos c41] at H
         have c41b0 : (a1 == 2) = true := beq_iff_eq.mpr c41
         have c41b1 : (a1 != 2) = false := bne_eq_false_iff_eq.mpr c41
         clear c41
         by_cases c42 : t272 = true
         ·subst c42
          have H1 : (some (true, 0)) = some (r1, r2) := by rw [if_pos rfl] at H; exact H
          clear H
          have H := H1
          clear H1
          simp only [Option.some.injEq, Prod.mk.injEq] at H
          obtain ⟨rfl, rfl⟩ := H
          try go_wp2
          have n0_ := As0.mk (bkd BK268.out)
          have n1_ := As0.mk (bd1 HB.out)
          clear BK268
          clear HB
          have BK268 := n0_
          have HB := n1_
          clear n0_ n1_
          refine start_ (n := 10) (S := fun w' => w'.cell? ⟨gb268, 0, none⟩ = some (.int .i64 t266) ∧ w'.cell? ⟨gb268, 1, none⟩ = some (.int .i64 t267)) (ds := []) #[false, false, false, false, false, false, false, false, false, false] (by kernel_rfl) rfl rfl ⟨(bce BK268.out 0).trans rfl, (bce BK268.out 1).trans rfl⟩ (fun hHeld => ?_); refine with_tabW floats_Rel.tab6 floats_Rel.bits6 (fun HT_ HW_ => ?_)
          generalize wc.drew = w43 at BK268 HB hHeld ⊢
          refine pure_ (i := 1) (N := some 36) (v := ?_) (a' := ?_) #[false, true, false, false, false, false, false, false, false, false] rfl rfl (any_of HT_.out (by kernel_rfl)) (fun _ _ _ h => h) (Or.inl ⟨by rfl, ?_⟩) ?_ ?_
          rotate_left
          ·intro w'
           go_simp
           with_reducible rfl
          rotate_left
          ·simp only [Act.put, zsi, zcz, zcs, i64_w, i32_w]
           rfl
          refine pure_ (i := 2) (N := some 37) (v := ?_) (a' := ?_) #[false, true, true, false, false, false, false, false, false, false] rfl rfl (any_of HT_.out (by kernel_rfl)) (fun _ _ _ h => h) (Or.inl ⟨by rfl, ?_⟩) ?_ ?_
          rotate_left
          ·intro w'
           go_simp
           with_reducible rfl
          rotate_left
          ·simp only [Act.put, zsi, zcz, zcs, i64_w, i32_w]
           rfl
          refine pure_ (i := 5) (N := some 40) (v := ?_) (a' := ?_) #[false, true, true, false, false, true, false, false, false, false] rfl rfl (any_of HT_.out (by kernel_rfl)) (fun _ _ _ h => h) (Or.inl ⟨by rfl, ?_⟩) ?_ ?_
          rotate_left
          ·intro w'
           go_simp
           with_reducible rfl
          rotate_left
          ·simp only [Act.put, zsi, zcz, zcs, i64_w, i32_w]
           rfl
          refine pure_ (i := 6) (N := some 41) (v := ?_) (a' := ?_) #[false, true, true, false, false, true, true, false, false, false] rfl rfl (any_of HT_.out (by kernel_rfl)) (fun _ _ _ h => h) (Or.inl ⟨by rfl, ?_⟩) ?_ ?_
          rotate_left
          ·intro w'
           go_simp
           with_reducible rfl
          rotate_left
          ·simp only [Act.put, zsi, zcz, zcs, i64_w, i32_w]
           rfl
          refine take_ (i := 0) (N := some 35) (v := ?_) (a' := ?_) #[true, true, true, false, false, true, true, false, false, false] rfl rfl (take_ofW HT_.out HW_.out (by kernel_rfl)) (fun _ _ _ h => h) (Or.inl ⟨by rfl, ?_⟩) hHeld ?_ ?_
          rotate_left
          ·rintro w' ⟨s0, s1⟩
           go_simp
           with_reducible rfl
          rotate_left
          ·simp only [Act.put, zsi, zcz, zcs, i64_w, i32_w]
           rfl
          refine take_ (i := 4) (N := some 39) (v := ?_) (a' := ?_) #[true, true, true, false, true, true, true, false, false, false] rfl rfl (take_ofW HT_.out HW_.out (by kernel_rfl)) (fun _ _ _ h => h) (Or.inl ⟨by rfl, ?_⟩) hHeld ?_ ?_
          rotate_left
          ·rintro w' ⟨s0, s1⟩
           go_simp
           with_reducible rfl
          rotate_left
          ·simp only [Act.put, zsi, zcz, zcs, i64_w, i32_w]
           rfl
          refine one_ (i := 3) (N := some 38) #[true, true, true, true, true, true, true, false, false, false] rfl rfl (one_of HT_.out (by kernel_rfl)) (by decide) (fun K hK => ?_)
          refine goes_ Try.func41 (by kernel_rfl) rfl #[.agg #[.int .i64 t266, .int .i64 t267], .int .u64 a2, .int .u64 a3] (by rfl) rfl rfl (by (try simp only [zmt, zmc, zmn]); first | done | rfl) ?_
          with_reducible refine (ff_less.calls t266 t267 a2 a3 true _ A31.out).mono ?_
          rintro e w44 ⟨rfl, hb⟩
          refine ⟨_, rfl, ?_⟩
          have n0_ := As0.mk (bkb (g := gb268) (o := .cells #[.int .i64 t266, .int .i64 t267] 43 (0, 0)) (by (with_reducible repeat (first | refine bkN ?_ _ | refine bkd ?_ | refine bka ?_ _)); exact BK268.out) hb)
          have n1_ := As0.mk (bst (by repeat (first | (with_reducible first | exact HB.out | apply bal | apply pwB_ | apply bd1 | refine bse ?_ GE268.out) | exact HB.out)) hb)
          clear BK268
          clear HB
          have BK268 := n0_
          have HB := n1_
          clear n0_ n1_
          (try clear hb)
          (try clear hb2)
          (try clear hk)
          (try clear hi)
          refine hK.out _ _ ⟨(bce BK268.out 0).trans rfl, (bce BK268.out 1).trans rfl⟩ (fun hHeld => ?_)
          clear hK K
          refine norm_ (a' := ?_) ?_ ?_
          rotate_left
          ·show Act.put _ (some 38) _ = _
           simp only [Act.put, zsi, zcz, zcs, i64_w, i32_w]
           rfl
          refine one_ (i := 7) (N := some 42) #[true, true, true, true, true, true, true, true, false, false] rfl rfl (one_of HT_.out (by kernel_rfl)) (by decide) (fun K hK => ?_)
          refine goes_ Try.func41 (by kernel_rfl) rfl #[.agg #[.int .i64 t266, .int .i64 t267], .int .u64 a3, .int .u64 a2] (by rfl) rfl rfl (by (try simp only [zmt, zmc, zmn]); first | done | rfl) ?_
          with_reducible refine (ff_less.calls t266 t267 a3 a2 t273 _ A32.out).mono ?_
          rintro e w45 ⟨rfl, hb⟩
          refine ⟨_, rfl, ?_⟩
          have n0_ := As0.mk (bkb (g := gb268) (o := .cells #[.int .i64 t266, .int .i64 t267] 43 (0, 0)) (by (with_reducible repeat (first | refine bkN ?_ _ | refine bkd ?_ | refine bka ?_ _)); exact BK268.out) hb)
          have n1_ := As0.mk (bst (by repeat (first | (with_reducible first | exact HB.out | apply bal | apply pwB_ | apply bd1 | refine bse ?_ GE268.out) | exact HB.out)) hb)
          clear BK268
          clear HB
          have BK268 := n0_
          have HB := n1_
          clear n0_ n1_
          (try clear hb)
          (try clear hb2)
          (try clear hk)
          (try clear hi)
          refine hK.out _ _ ⟨(bce BK268.out 0).trans rfl, (bce BK268.out 1).trans rfl⟩ (fun hHeld => ?_)
          clear hK K
          refine norm_ (a' := ?_) ?_ ?_
          rotate_left
          ·show Act.put _ (some 42) _ = _
           simp only [Act.put, zsi, zcz, zcs, i64_w, i32_w]
           rfl
          refine pure_ (i := 8) (N := some 11) (v := ?_) (a' := ?_) #[true, true, true, true, true, true, true, true, true, false] rfl rfl (any_of HT_.out (by kernel_rfl)) (fun _ _ _ h => h) (Or.inl ⟨by rfl, ?_⟩) ?_ ?_
          rotate_left
          ·intro w'
           go_simp
           with_reducible rfl
          rotate_left
          ·simp only [Act.put, zsi, zcz, zcs, i64_w, i32_w]
           rfl
          refine pure_ (i := 9) (N := some 12) (v := ?_) (a' := ?_) #[true, true, true, true, true, true, true, true, true, true] rfl rfl (any_of HT_.out (by kernel_rfl)) (fun _ _ _ h => h) (Or.inl ⟨by rfl, ?_⟩) ?_ ?_
          rotate_left
          ·intro w'
           go_simp
           with_reducible rfl
          rotate_left
          ·simp only [Act.put, zsi, zcz, zcs, i64_w, i32_w]
           rfl
          refine done_ (done_of HT_.out (by kernel_rfl)) ?_
          try go_wp2
          go_ret2
          exact ⟨by first | rfl | (simp [*] <;> rfl), by repeat (first | (with_reducible first | exact HB.out | apply bal | apply pwB_ | apply bd1 | refine bse ?_ GE268.out) | exact HB.out)⟩
         ·replace c42 := Bool.eq_false_iff.mpr c42
          subst c42
          have H1 : (some (t273, 0)) = some (r1, r2) := by rw [if_neg (show ¬ (false = true) by decide)] at H; exact H
          clear H
          have H := H1
          clear H1
          simp only [Option.some.injEq, Prod.mk.injEq] at H
          obtain ⟨rfl, rfl⟩ := H
          try go_wp2
          have n0_ := As0.mk (bkd BK268.out)
          have n1_ := As0.mk (bd1 HB.out)
          clear BK268
          clear HB
          have BK268 := n0_
          have HB := n1_
          clear n0_ n1_
          refine start_ (n := 10) (S := fun w' => w'.cell? ⟨gb268, 0, none⟩ = some (.int .i64 t266) ∧ w'.cell? ⟨gb268, 1, none⟩ = some (.int .i64 t267)) (ds := []) #[false, false, false, false, false, false, false, false, false, false] (by kernel_rfl) rfl rfl ⟨(bce BK268.out 0).trans rfl, (bce BK268.out 1).trans rfl⟩ (fun hHeld => ?_); refine with_tabW floats_Rel.tab6 floats_Rel.bits6 (fun HT_ HW_ => ?_)
          generalize wc.drew = w46 at BK268 HB hHeld ⊢
          refine pure_ (i := 1) (N := some 36) (v := ?_) (a' := ?_) #[false, true, false, false, false, false, false, false, false, false] rfl rfl (any_of HT_.out (by kernel_rfl)) (fun _ _ _ h => h) (Or.inl ⟨by rfl, ?_⟩) ?_ ?_
          rotate_left
          ·intro w'
           go_simp
           with_reducible rfl
          rotate_left
          ·simp only [Act.put, zsi, zcz, zcs, i64_w, i32_w]
           rfl
          refine pure_ (i := 2) (N := some 37) (v := ?_) (a' := ?_) #[false, true, true, false, false, false, false, false, false, false] rfl rfl (any_of HT_.out (by kernel_rfl)) (fun _ _ _ h => h) (Or.inl ⟨by rfl, ?_⟩) ?_ ?_
          rotate_left
          ·intro w'
           go_simp
           with_reducible rfl
          rotate_left
          ·simp only [Act.put, zsi, zcz, zcs, i64_w, i32_w]
           rfl
          refine pure_ (i := 5) (N := some 40) (v := ?_) (a' := ?_) #[false, true, true, false, false, true, false, false, false, false] rfl rfl (any_of HT_.out (by kernel_rfl)) (fun _ _ _ h => h) (Or.inl ⟨by rfl, ?_⟩) ?_ ?_
          rotate_left
          ·intro w'
           go_simp
           with_reducible rfl
          rotate_left
          ·simp only [Act.put, zsi, zcz, zcs, i64_w, i32_w]
           rfl
          refine pure_ (i := 6) (N := some 41) (v := ?_) (a' := ?_) #[false, true, true, false, false, true, true, false, false, false] rfl rfl (any_of HT_.out (by kernel_rfl)) (fun _ _ _ h => h) (Or.inl ⟨by rfl, ?_⟩) ?_ ?_
          rotate_left
          ·intro w'
           go_simp
           with_reducible rfl
          rotate_left
          ·simp only [Act.put, zsi, zcz, zcs, i64_w, i32_w]
           rfl
          refine take_ (i := 0) (N := some 35) (v := ?_) (a' := ?_) #[true, true, true, false, false, true, true, false, false, false] rfl rfl (take_ofW HT_.out HW_.out (by kernel_rfl)) (fun _ _ _ h => h) (Or.inl ⟨by rfl, ?_⟩) hHeld ?_ ?_
          rotate_left
          ·rintro w' ⟨s0, s1⟩
           go_simp
           with_reducible rfl
          rotate_left
          ·simp only [Act.put, zsi, zcz, zcs, i64_w, i32_w]
           rfl
          refine take_ (i := 4) (N := some 39) (v := ?_) (a' := ?_) #[true, true, true, false, true, true, true, false, false, false] rfl rfl (take_ofW HT_.out HW_.out (by kernel_rfl)) (fun _ _ _ h => h) (Or.inl ⟨by rfl, ?_⟩) hHeld ?_ ?_
          rotate_left
          ·rintro w' ⟨s0, s1⟩
           go_simp
           with_reducible rfl
          rotate_left
          ·simp only [Act.put, zsi, zcz, zcs, i64_w, i32_w]
           rfl
          refine one_ (i := 3) (N := some 38) #[true, true, true, true, true, true, true, false, false, false] rfl rfl (one_of HT_.out (by kernel_rfl)) (by decide) (fun K hK => ?_)
          refine goes_ Try.func41 (by kernel_rfl) rfl #[.agg #[.int .i64 t266, .int .i64 t267], .int .u64 a2, .int .u64 a3] (by rfl) rfl rfl (by (try simp only [zmt, zmc, zmn]); first | done | rfl) ?_
          with_reducible refine (ff_less.calls t266 t267 a2 a3 false _ A31.out).mono ?_
          rintro e w47 ⟨rfl, hb⟩
          refine ⟨_, rfl, ?_⟩
          have n0_ := As0.mk (bkb (g := gb268) (o := .cells #[.int .i64 t266, .int .i64 t267] 43 (0, 0)) (by (with_reducible repeat (first | refine bkN ?_ _ | refine bkd ?_ | refine bka ?_ _)); exact BK268.out) hb)
          have n1_ := As0.mk (bst (by repeat (first | (with_reducible first | exact HB.out | apply bal | apply pwB_ | apply bd1 | refine bse ?_ GE268.out) | exact HB.out)) hb)
          clear BK268
          clear HB
          have BK268 := n0_
          have HB := n1_
          clear n0_ n1_
          (try clear hb)
          (try clear hb2)
          (try clear hk)
          (try clear hi)
          refine hK.out _ _ ⟨(bce BK268.out 0).trans rfl, (bce BK268.out 1).trans rfl⟩ (fun hHeld => ?_)
          clear hK K
          refine norm_ (a' := ?_) ?_ ?_
          rotate_left
          ·show Act.put _ (some 38) _ = _
           simp only [Act.put, zsi, zcz, zcs, i64_w, i32_w]
           rfl
          refine one_ (i := 7) (N := some 42) #[true, true, true, true, true, true, true, true, false, false] rfl rfl (one_of HT_.out (by kernel_rfl)) (by decide) (fun K hK => ?_)
          refine goes_ Try.func41 (by kernel_rfl) rfl #[.agg #[.int .i64 t266, .int .i64 t267], .int .u64 a3, .int .u64 a2] (by rfl) rfl rfl (by (try simp only [zmt, zmc, zmn]); first | done | rfl) ?_
          with_reducible refine (ff_less.calls t266 t267 a3 a2 t273 _ A32.out).mono ?_
          rintro e w48 ⟨rfl, hb⟩
          refine ⟨_, rfl, ?_⟩
          have n0_ := As0.mk (bkb (g := gb268) (o := .cells #[.int .i64 t266, .int .i64 t267] 43 (0, 0)) (by (with_reducible repeat (first | refine bkN ?_ _ | refine bkd ?_ | refine bka ?_ _)); exact BK268.out) hb)
          have n1_ := As0.mk (bst (by repeat (first | (with_reducible first | exact HB.out | apply bal | apply pwB_ | apply bd1 | refine bse ?_ GE268.out) | exact HB.out)) hb)
          clear BK268
          clear HB
          have BK268 := n0_
          have HB := n1_
          clear n0_ n1_
          (try clear hb)
          (try clear hb2)
          (try clear hk)
          (try clear hi)
          refine hK.out _ _ ⟨(bce BK268.out 0).trans rfl, (bce BK268.out 1).trans rfl⟩ (fun hHeld => ?_)
          clear hK K
          refine norm_ (a' := ?_) ?_ ?_
          rotate_left
          ·show Act.put _ (some 42) _ = _
           simp only [Act.put, zsi, zcz, zcs, i64_w, i32_w]
           rfl
          refine pure_ (i := 8) (N := some 11) (v := ?_) (a' := ?_) #[true, true, true, true, true, true, true, true, true, false] rfl rfl (any_of HT_.out (by kernel_rfl)) (fun _ _ _ h => h) (Or.inl ⟨by rfl, ?_⟩) ?_ ?_
          rotate_left
          ·intro w'
           go_simp
           with_reducible rfl
          rotate_left
          ·simp only [Act.put, zsi, zcz, zcs, i64_w, i32_w]
           rfl
          refine pure_ (i := 9) (N := some 12) (v := ?_) (a' := ?_) #[true, true, true, true, true, true, true, true, true, true] rfl rfl (any_of HT_.out (by kernel_rfl)) (fun _ _ _ h => h) (Or.inl ⟨by rfl, ?_⟩) ?_ ?_
          rotate_left
          ·intro w'
           go_simp
           with_reducible rfl
          rotate_left
          ·simp only [Act.put, zsi, zcz, zcs, i64_w, i32_w]
           rfl
          refine done_ (done_of HT_.out (by kernel_rfl)) ?_
          try go_wp2
          go_ret2
          exact ⟨by first | rfl | (simp [*] <;> rfl), by repeat (first | (with_reducible first | exact HB.out | apply bal | apply pwB_ | apply bd1 | refine bse ?_ GE268.out) | exact HB.out)⟩
        ·rw [if_neg c41] at H
         have c41b0 : (a1 == 2) = false := beq_eq_false_iff_ne.mpr c41
         have c41b1 : (a1 != 2) = true := bne_iff_ne.mpr c41
         by_cases c49 : a1 = 3
         ·rw [if_pos c49] at H
          have c49b0 : (a1 == 3) = true := beq_iff_eq.mpr c49
          have c49b1 : (a1 != 3) = false := bne_eq_false_iff_eq.mpr c49
          clear c49
          simp only [Option.some.injEq, Prod.mk.injEq] at H
          obtain ⟨rfl, rfl⟩ := H
          try go_wp2
          have n0_ := As0.mk (bkd BK268.out)
          have n1_ := As0.mk (bd1 HB.out)
          clear BK268
          clear HB
          have BK268 := n0_
          have HB := n1_
          clear n0_ n1_
          refine start_ (n := 10) (S := fun w' => w'.cell? ⟨gb268, 0, none⟩ = some (.int .i64 t266) ∧ w'.cell? ⟨gb268, 1, none⟩ = some (.int .i64 t267)) (ds := []) #[false, false, false, false, false, false, false, false, false, false] (by kernel_rfl) rfl rfl ⟨(bce BK268.out 0).trans rfl, (bce BK268.out 1).trans rfl⟩ (fun hHeld => ?_); refine with_tabW floats_Rel.tab6 floats_Rel.bits6 (fun HT_ HW_ => ?_)
          generalize wc.drew = w50 at BK268 HB hHeld ⊢
          refine pure_ (i := 1) (N := some 36) (v := ?_) (a' := ?_) #[false, true, false, false, false, false, false, false, false, false] rfl rfl (any_of HT_.out (by kernel_rfl)) (fun _ _ _ h => h) (Or.inl ⟨by rfl, ?_⟩) ?_ ?_
          rotate_left
          ·intro w'
           go_simp
           with_reducible rfl
          rotate_left
          ·simp only [Act.put, zsi, zcz, zcs, i64_w, i32_w]
           rfl
          refine pure_ (i := 2) (N := some 37) (v := ?_) (a' := ?_) #[false, true, true, false, false, false, false, false, false, false] rfl rfl (any_of HT_.out (by kernel_rfl)) (fun _ _ _ h => h) (Or.inl ⟨by rfl, ?_⟩) ?_ ?_
          rotate_left
          ·intro w'
           go_simp
           with_reducible rfl
          rotate_left
          ·simp only [Act.put, zsi, zcz, zcs, i64_w, i32_w]
           rfl
          refine pure_ (i := 5) (N := some 40) (v := ?_) (a' := ?_) #[false, true, true, false, false, true, false, false, false, false] rfl rfl (any_of HT_.out (by kernel_rfl)) (fun _ _ _ h => h) (Or.inl ⟨by rfl, ?_⟩) ?_ ?_
          rotate_left
          ·intro w'
           go_simp
           with_reducible rfl
          rotate_left
          ·simp only [Act.put, zsi, zcz, zcs, i64_w, i32_w]
           rfl
          refine pure_ (i := 6) (N := some 41) (v := ?_) (a' := ?_) #[false, true, true, false, false, true, true, false, false, false] rfl rfl (any_of HT_.out (by kernel_rfl)) (fun _ _ _ h => h) (Or.inl ⟨by rfl, ?_⟩) ?_ ?_
          rotate_left
          ·intro w'
           go_simp
           with_reducible rfl
          rotate_left
          ·simp only [Act.put, zsi, zcz, zcs, i64_w, i32_w]
           rfl
          refine take_ (i := 0) (N := some 35) (v := ?_) (a' := ?_) #[true, true, true, false, false, true, true, false, false, false] rfl rfl (take_ofW HT_.out HW_.out (by kernel_rfl)) (fun _ _ _ h => h) (Or.inl ⟨by rfl, ?_⟩) hHeld ?_ ?_
          rotate_left
          ·rintro w' ⟨s0, s1⟩
           go_simp
           with_reducible rfl
          rotate_left
          ·simp only [Act.put, zsi, zcz, zcs, i64_w, i32_w]
           rfl
          refine take_ (i := 4) (N := some 39) (v := ?_) (a' := ?_) #[true, true, true, false, true, true, true, false, false, false] rfl rfl (take_ofW HT_.out HW_.out (by kernel_rfl)) (fun _ _ _ h => h) (Or.inl ⟨by rfl, ?_⟩) hHeld ?_ ?_
          rotate_left
          ·rintro w' ⟨s0, s1⟩
           go_simp
           with_reducible rfl
          rotate_left
          ·simp only [Act.put, zsi, zcz, zcs, i64_w, i32_w]
           rfl
          refine one_ (i := 3) (N := some 38) #[true, true, true, true, true, true, true, false, false, false] rfl rfl (one_of HT_.out (by kernel_rfl)) (by decide) (fun K hK => ?_)
          refine goes_ Try.func41 (by kernel_rfl) rfl #[.agg #[.int .i64 t266, .int .i64 t267], .int .u64 a2, .int .u64 a3] (by rfl) rfl rfl (by (try simp only [zmt, zmc, zmn]); first | done | rfl) ?_
          with_reducible refine (ff_less.calls t266 t267 a2 a3 t272 _ A31.out).mono ?_
          rintro e w51 ⟨rfl, hb⟩
          refine ⟨_, rfl, ?_⟩
          have n0_ := As0.mk (bkb (g := gb268) (o := .cells #[.int .i64 t266, .int .i64 t267] 43 (0, 0)) (by (with_reducible repeat (first | refine bkN ?_ _ | refine bkd ?_ | refine bka ?_ _)); exact BK268.out) hb)
          have n1_ := As0.mk (bst (by repeat (first | (with_reducible first | exact HB.out | apply bal | apply pwB_ | apply bd1 | refine bse ?_ GE268.out) | exact HB.out)) hb)
          clear BK268
          clear HB
          have BK268 := n0_
          have HB := n1_
          clear n0_ n1_
          (try clear hb)
          (try clear hb2)
          (try clear hk)
          (try clear hi)
          refine hK.out _ _ ⟨(bce BK268.out 0).trans rfl, (bce BK268.out 1).trans rfl⟩ (fun hHeld => ?_)
          clear hK K
          refine norm_ (a' := ?_) ?_ ?_
          rotate_left
          ·show Act.put _ (some 38) _ = _
           simp only [Act.put, zsi, zcz, zcs, i64_w, i32_w]
           rfl
          refine one_ (i := 7) (N := some 42) #[true, true, true, true, true, true, true, true, false, false] rfl rfl (one_of HT_.out (by kernel_rfl)) (by decide) (fun K hK => ?_)
          refine goes_ Try.func41 (by kernel_rfl) rfl #[.agg #[.int .i64 t266, .int .i64 t267], .int .u64 a3, .int .u64 a2] (by rfl) rfl rfl (by (try simp only [zmt, zmc, zmn]); first | done | rfl) ?_
          with_reducible refine (ff_less.calls t266 t267 a3 a2 t273 _ A32.out).mono ?_
          rintro e w52 ⟨rfl, hb⟩
          refine ⟨_, rfl, ?_⟩
          have n0_ := As0.mk (bkb (g := gb268) (o := .cells #[.int .i64 t266, .int .i64 t267] 43 (0, 0)) (by (with_reducible repeat (first | refine bkN ?_ _ | refine bkd ?_ | refine bka ?_ _)); exact BK268.out) hb)
          have n1_ := As0.mk (bst (by repeat (first | (with_reducible first | exact HB.out | apply bal | apply pwB_ | apply bd1 | refine bse ?_ GE268.out) | exact HB.out)) hb)
          clear BK268
          clear HB
          have BK268 := n0_
          have HB := n1_
          clear n0_ n1_
          (try clear hb)
          (try clear hb2)
          (try clear hk)
          (try clear hi)
          refine hK.out _ _ ⟨(bce BK268.out 0).trans rfl, (bce BK268.out 1).trans rfl⟩ (fun hHeld => ?_)
          clear hK K
          refine norm_ (a' := ?_) ?_ ?_
          rotate_left
          ·show Act.put _ (some 42) _ = _
           simp only [Act.put, zsi, zcz, zcs, i64_w, i32_w]
           rfl
          refine pure_ (i := 8) (N := some 11) (v := ?_) (a' := ?_) #[true, true, true, true, true, true, true, true, true, false] rfl rfl (any_of HT_.out (by kernel_rfl)) (fun _ _ _ h => h) (Or.inl ⟨by rfl, ?_⟩) ?_ ?_
          rotate_left
          ·intro w'
           go_simp
           with_reducible rfl
          rotate_left
          ·simp only [Act.put, zsi, zcz, zcs, i64_w, i32_w]
           rfl
          refine pure_ (i := 9) (N := some 12) (v := ?_) (a' := ?_) #[true, true, true, true, true, true, true, true, true, true] rfl rfl (any_of HT_.out (by kernel_rfl)) (fun _ _ _ h => h) (Or.inl ⟨by rfl, ?_⟩) ?_ ?_
          rotate_left
          ·intro w'
           go_simp
           with_reducible rfl
          rotate_left
          ·simp only [Act.put, zsi, zcz, zcs, i64_w, i32_w]
           rfl
          refine done_ (done_of HT_.out (by kernel_rfl)) ?_
          try go_wp2
          go_ret2
          exact ⟨by first | rfl | (simp [*] <;> rfl), by repeat (first | (with_reducible first | exact HB.out | apply bal | apply pwB_ | apply bd1 | refine bse ?_ GE268.out) | exact HB.out)⟩
         ·rw [if_neg c49] at H
          have c49b0 : (a1 == 3) = false := beq_eq_false_iff_ne.mpr c49
          have c49b1 : (a1 != 3) = true := bne_iff_ne.mpr c49
          by_cases c53 : a1 = 4
          ·rw [if_pos c53] at H
           have c53b0 : (a1 == 4) = true := beq_iff_eq.mpr c53
           have c53b1 : (a1 != 4) = false := bne_eq_false_iff_eq.mpr c53
           clear c53
           simp only [Option.some.injEq, Prod.mk.injEq] at H
           obtain ⟨rfl, rfl⟩ := H
           try go_wp2
           have n0_ := As0.mk (bkd BK268.out)
           have n1_ := As0.mk (bd1 HB.out)
           clear BK268
           clear HB
           have BK268 := n0_
           have HB := n1_
           clear n0_ n1_
           refine start_ (n := 10) (S := fun w' => w'.cell? ⟨gb268, 0, none⟩ = some (.int .i64 t266) ∧ w'.cell? ⟨gb268, 1, none⟩ = some (.int .i64 t267)) (ds := []) #[false, false, false, false, false, false, false, false, false, false] (by kernel_rfl) rfl rfl ⟨(bce BK268.out 0).trans rfl, (bce BK268.out 1).trans rfl⟩ (fun hHeld => ?_); refine with_tabW floats_Rel.tab6 floats_Rel.bits6 (fun HT_ HW_ => ?_)
           generalize wc.drew = w54 at BK268 HB hHeld ⊢
           refine pure_ (i := 1) (N := some 36) (v := ?_) (a' := ?_) #[false, true, false, false, false, false, false, false, false, false] rfl rfl (any_of HT_.out (by kernel_rfl)) (fun _ _ _ h => h) (Or.inl ⟨by rfl, ?_⟩) ?_ ?_
           rotate_left
           ·intro w'
            go_simp
            with_reducible rfl
           rotate_left
           ·simp only [Act.put, zsi, zcz, zcs, i64_w, i32_w]
            rfl
           refine pure_ (i := 2) (N := some 37) (v := ?_) (a' := ?_) #[false, true, true, false, false, false, false, false, false, false] rfl rfl (any_of HT_.out (by kernel_rfl)) (fun _ _ _ h => h) (Or.inl ⟨by rfl, ?_⟩) ?_ ?_
           rotate_left
           ·intro w'
            go_simp
            with_reducible rfl
           rotate_left
           ·simp only [Act.put, zsi, zcz, zcs, i64_w, i32_w]
            rfl
           refine pure_ (i := 5) (N := some 40) (v := ?_) (a' := ?_) #[false, true, true, false, false, true, false, false, false, false] rfl rfl (any_of HT_.out (by kernel_rfl)) (fun _ _ _ h => h) (Or.inl ⟨by rfl, ?_⟩) ?_ ?_
           rotate_left
           ·intro w'
            go_simp
            with_reducible rfl
           rotate_left
           ·simp only [Act.put, zsi, zcz, zcs, i64_w, i32_w]
            rfl
           refine pure_ (i := 6) (N := some 41) (v := ?_) (a' := ?_) #[false, true, true, false, false, true, true, false, false, false] rfl rfl (any_of HT_.out (by kernel_rfl)) (fun _ _ _ h => h) (Or.inl ⟨by rfl, ?_⟩) ?_ ?_
           rotate_left
           ·intro w'
            go_simp
            with_reducible rfl
           rotate_left
           ·simp only [Act.put, zsi, zcz, zcs, i64_w, i32_w]
            rfl
           refine take_ (i := 0) (N := some 35) (v := ?_) (a' := ?_) #[true, true, true, false, false, true, true, false, false, false] rfl rfl (take_ofW HT_.out HW_.out (by kernel_rfl)) (fun _ _ _ h => h) (Or.inl ⟨by rfl, ?_⟩) hHeld ?_ ?_
           rotate_left
           ·rintro w' ⟨s0, s1⟩
            go_simp
            with_reducible rfl
           rotate_left
           ·simp only [Act.put, zsi, zcz, zcs, i64_w, i32_w]
            rfl
           refine take_ (i := 4) (N := some 39) (v := ?_) (a' := ?_) #[true, true, true, false, true, true, true, false, false, false] rfl rfl (take_ofW HT_.out HW_.out (by kernel_rfl)) (fun _ _ _ h => h) (Or.inl ⟨by rfl, ?_⟩) hHeld ?_ ?_
           rotate_left
           ·rintro w' ⟨s0, s1⟩
            go_simp
            with_reducible rfl
           rotate_left
           ·simp only [Act.put, zsi, zcz, zcs, i64_w, i32_w]
            rfl
           refine one_ (i := 3) (N := some 38) #[true, true, true, true, true, true, true, false, false, false] rfl rfl (one_of HT_.out (by kernel_rfl)) (by decide) (fun K hK => ?_)
           refine goes_ Try.func41 (by kernel_rfl) rfl #[.agg #[.int .i64 t266, .int .i64 t267], .int .u64 a2, .int .u64 a3] (by rfl) rfl rfl (by (try simp only [zmt, zmc, zmn]); first | done | rfl) ?_
           with_reducible refine (ff_less.calls t266 t267 a2 a3 t272 _ A31.out).mono ?_
           rintro e w55 ⟨rfl, hb⟩
           refine ⟨_, rfl, ?_⟩
           have n0_ := As0.mk (bkb (g := gb268) (o := .cells #[.int .i64 t266, .int .i64 t267] 43 (0, 0)) (by (with_reducible repeat (first | refine bkN ?_ _ | refine bkd ?_ | refine bka ?_ _)); exact BK268.out) hb)
           have n1_ := As0.mk (bst (by repeat (first | (with_reducible first | exact HB.out | apply bal | apply pwB_ | apply bd1 | refine bse ?_ GE268.out) | exact HB.out)) hb)
           clear BK268
           clear HB
           have BK268 := n0_
           have HB := n1_
           clear n0_ n1_
           (try clear hb)
           (try clear hb2)
           (try clear hk)
           (try clear hi)
           refine hK.out _ _ ⟨(bce BK268.out 0).trans rfl, (bce BK268.out 1).trans rfl⟩ (fun hHeld => ?_)
           clear hK K
           refine norm_ (a' := ?_) ?_ ?_
           rotate_left
           ·show Act.put _ (some 38) _ = _
            simp only [Act.put, zsi, zcz, zcs, i64_w, i32_w]
            rfl
           refine one_ (i := 7) (N := some 42) #[true, true, true, true, true, true, true, true, false, false] rfl rfl (one_of HT_.out (by kernel_rfl)) (by decide) (fun K hK => ?_)
           refine goes_ Try.func41 (by kernel_rfl) rfl #[.agg #[.int .i64 t266, .int .i64 t267], .int .u64 a3, .int .u64 a2] (by rfl) rfl rfl (by (try simp only [zmt, zmc, zmn]); first | done | rfl) ?_
           with_reducible refine (ff_less.calls t266 t267 a3 a2 t273 _ A32.out).mono ?_
           rintro e w56 ⟨rfl, hb⟩
           refine ⟨_, rfl, ?_⟩
           have n0_ := As0.mk (bkb (g := gb268) (o := .cells #[.int .i64 t266, .int .i64 t267] 43 (0, 0)) (by (with_reducible repeat (first | refine bkN ?_ _ | refine bkd ?_ | refine bka ?_ _)); exact BK268.out) hb)
           have n1_ := As0.mk (bst (by repeat (first | (with_reducible first | exact HB.out | apply bal | apply pwB_ | apply bd1 | refine bse ?_ GE268.out) | exact HB.out)) hb)
           clear BK268
           clear HB
           have BK268 := n0_
           have HB := n1_
           clear n0_ n1_
           (try clear hb)
           (try clear hb2)
           (try clear hk)
           (try clear hi)
           refine hK.out _ _ ⟨(bce BK268.out 0).trans rfl, (bce BK268.out 1).trans rfl⟩ (fun hHeld => ?_)
           clear hK K
           refine norm_ (a' := ?_) ?_ ?_
           rotate_left
           ·show Act.put _ (some 42) _ = _
            simp only [Act.put, zsi, zcz, zcs, i64_w, i32_w]
            rfl
           refine pure_ (i := 8) (N := some 11) (v := ?_) (a' := ?_) #[true, true, true, true, true, true, true, true, true, false] rfl rfl (any_of HT_.out (by kernel_rfl)) (fun _ _ _ h => h) (Or.inl ⟨by rfl, ?_⟩) ?_ ?_
           rotate_left
           ·intro w'
            go_simp
            with_reducible rfl
           rotate_left
           ·simp only [Act.put, zsi, zcz, zcs, i64_w, i32_w]
            rfl
           refine pure_ (i := 9) (N := some 12) (v := ?_) (a' := ?_) #[true, true, true, true, true, true, true, true, true, true] rfl rfl (any_of HT_.out (by kernel_rfl)) (fun _ _ _ h => h) (Or.inl ⟨by rfl, ?_⟩) ?_ ?_
           rotate_left
           ·intro w'
            go_simp
            with_reducible rfl
           rotate_left
           ·simp only [Act.put, zsi, zcz, zcs, i64_w, i32_w]
            rfl
           refine done_ (done_of HT_.out (by kernel_rfl)) ?_
           try go_wp2
           go_ret2
           exact ⟨by first | rfl | (simp [*] <;> rfl), by repeat (first | (with_reducible first | exact HB.out | apply bal | apply pwB_ | apply bd1 | refine bse ?_ GE268.out) | exact HB.out)⟩
          ·rw [if_neg c53] at H
           have c53b0 : (a1 == 4) = false := beq_eq_false_iff_ne.mpr c53
           have c53b1 : (a1 != 4) = true := bne_iff_ne.mpr c53
           by_cases c57 : a1 = 5
           ·rw [if_pos c57] at H
            have c57b0 : (a1 == 5) = true := beq_iff_eq.mpr c57
            have c57b1 : (a1 != 5) = false := bne_eq_false_iff_eq.mpr c57
            clear c57
            simp only [Option.some.injEq, Prod.mk.injEq] at H
            obtain ⟨rfl, rfl⟩ := H
            try go_wp2
            have n0_ := As0.mk (bkd BK268.out)
            have n1_ := As0.mk (bd1 HB.out)
            clear BK268
            clear HB
            have BK268 := n0_
            have HB := n1_
            clear n0_ n1_
            refine start_ (n := 10) (S := fun w' => w'.cell? ⟨gb268, 0, none⟩ = some (.int .i64 t266) ∧ w'.cell? ⟨gb268, 1, none⟩ = some (.int .i64 t267)) (ds := []) #[false, false, false, false, false, false, false, false, false, false] (by kernel_rfl) rfl rfl ⟨(bce BK268.out 0).trans rfl, (bce BK268.out 1).trans rfl⟩ (fun hHeld => ?_); refine with_tabW floats_Rel.tab6 floats_Rel.bits6 (fun HT_ HW_ => ?_)
            generalize wc.drew = w58 at BK268 HB hHeld ⊢
            refine pure_ (i := 1) (N := some 36) (v := ?_) (a' := ?_) #[false, true, false, false, false, false, false, false, false, false] rfl rfl (any_of HT_.out (by kernel_rfl)) (fun _ _ _ h => h) (Or.inl ⟨by rfl, ?_⟩) ?_ ?_
            rotate_left
            ·intro w'
             go_simp
             with_reducible rfl
            rotate_left
            ·simp only [Act.put, zsi, zcz, zcs, i64_w, i32_w]
             rfl
            refine pure_ (i := 2) (N := some 37) (v := ?_) (a' := ?_) #[false, true, true, false, false, false, false, false, false, false] rfl rfl (any_of HT_.out (by kernel_rfl)) (fun _ _ _ h => h) (Or.inl ⟨by rfl, ?_⟩) ?_ ?_
            rotate_left
            ·intro w'
             go_simp
             with_reducible rfl
            rotate_left
            ·simp only [Act.put, zsi, zcz, zcs, i64_w, i32_w]
             rfl
            refine pure_ (i := 5) (N := some 40) (v := ?_) (a' := ?_) #[false, true, true, false, false, true, false, false, false, false] rfl rfl (any_of HT_.out (by kernel_rfl)) (fun _ _ _ h => h) (Or.inl ⟨by rfl, ?_⟩) ?_ ?_
            rotate_left
            ·intro w'
             go_simp
             with_reducible rfl
            rotate_left
            ·simp only [Act.put, zsi, zcz, zcs, i64_w, i32_w]
             rfl
            refine pure_ (i := 6) (N := some 41) (v := ?_) (a' := ?_) #[false, true, true, false, false, true, true, false, false, false] rfl rfl (any_of HT_.out (by kernel_rfl)) (fun _ _ _ h => h) (Or.inl ⟨by rfl, ?_⟩) ?_ ?_
            rotate_left
            ·intro w'
             go_simp
             with_reducible rfl
            rotate_left
            ·simp only [Act.put, zsi, zcz, zcs, i64_w, i32_w]
             rfl
            refine take_ (i := 0) (N := some 35) (v := ?_) (a' := ?_) #[true, true, true, false, false, true, true, false, false, false] rfl rfl (take_ofW HT_.out HW_.out (by kernel_rfl)) (fun _ _ _ h => h) (Or.inl ⟨by rfl, ?_⟩) hHeld ?_ ?_
            rotate_left
            ·rintro w' ⟨s0, s1⟩
             go_simp
             with_reducible rfl
            rotate_left
            ·simp only [Act.put, zsi, zcz, zcs, i64_w, i32_w]
             rfl
            refine take_ (i := 4) (N := some 39) (v := ?_) (a' := ?_) #[true, true, true, false, true, true, true, false, false, false] rfl rfl (take_ofW HT_.out HW_.out (by kernel_rfl)) (fun _ _ _ h => h) (Or.inl ⟨by rfl, ?_⟩) hHeld ?_ ?_
            rotate_left
            ·rintro w' ⟨s0, s1⟩
             go_simp
             with_reducible rfl
            rotate_left
            ·simp only [Act.put, zsi, zcz, zcs, i64_w, i32_w]
             rfl
            refine one_ (i := 3) (N := some 38) #[true, true, true, true, true, true, true, false, false, false] rfl rfl (one_of HT_.out (by kernel_rfl)) (by decide) (fun K hK => ?_)
            refine goes_ Try.func41 (by kernel_rfl) rfl #[.agg #[.int .i64 t266, .int .i64 t267], .int .u64 a2, .int .u64 a3] (by rfl) rfl rfl (by (try simp only [zmt, zmc, zmn]); first | done | rfl) ?_
            with_reducible refine (ff_less.calls t266 t267 a2 a3 t272 _ A31.out).mono ?_
            rintro e w59 ⟨rfl, hb⟩
            refine ⟨_, rfl, ?_⟩
            have n0_ := As0.mk (bkb (g := gb268) (o := .cells #[.int .i64 t266, .int .i64 t267] 43 (0, 0)) (by (with_reducible repeat (first | refine bkN ?_ _ | refine bkd ?_ | refine bka ?_ _)); exact BK268.out) hb)
            have n1_ := As0.mk (bst (by repeat (first | (with_reducible first | exact HB.out | apply bal | apply pwB_ | apply bd1 | refine bse ?_ GE268.out) | exact HB.out)) hb)
            clear BK268
            clear HB
            have BK268 := n0_
            have HB := n1_
            clear n0_ n1_
            (try clear hb)
            (try clear hb2)
            (try clear hk)
            (try clear hi)
            refine hK.out _ _ ⟨(bce BK268.out 0).trans rfl, (bce BK268.out 1).trans rfl⟩ (fun hHeld => ?_)
            clear hK K
            refine norm_ (a' := ?_) ?_ ?_
            rotate_left
            ·show Act.put _ (some 38) _ = _
             simp only [Act.put, zsi, zcz, zcs, i64_w, i32_w]
             rfl
            refine one_ (i := 7) (N := some 42) #[true, true, true, true, true, true, true, true, false, false] rfl rfl (one_of HT_.out (by kernel_rfl)) (by decide) (fun K hK => ?_)
            refine goes_ Try.func41 (by kernel_rfl) rfl #[.agg #[.int .i64 t266, .int .i64 t267], .int .u64 a3, .int .u64 a2] (by rfl) rfl rfl (by (try simp only [zmt, zmc, zmn]); first | done | rfl) ?_
            with_reducible refine (ff_less.calls t266 t267 a3 a2 t273 _ A32.out).mono ?_
            rintro e w60 ⟨rfl, hb⟩
            refine ⟨_, rfl, ?_⟩
            have n0_ := As0.mk (bkb (g := gb268) (o := .cells #[.int .i64 t266, .int .i64 t267] 43 (0, 0)) (by (with_reducible repeat (first | refine bkN ?_ _ | refine bkd ?_ | refine bka ?_ _)); exact BK268.out) hb)
            have n1_ := As0.mk (bst (by repeat (first | (with_reducible first | exact HB.out | apply bal | apply pwB_ | apply bd1 | refine bse ?_ GE268.out) | exact HB.out)) hb)
            clear BK268
            clear HB
            have BK268 := n0_
            have HB := n1_
            clear n0_ n1_
            (try clear hb)
            (try clear hb2)
            (try clear hk)
            (try clear hi)
            refine hK.out _ _ ⟨(bce BK268.out 0).trans rfl, (bce BK268.out 1).trans rfl⟩ (fun hHeld => ?_)
            clear hK K
            refine norm_ (a' := ?_) ?_ ?_
            rotate_left
            ·show Act.put _ (some 42) _ = _
             simp only [Act.put, zsi, zcz, zcs, i64_w, i32_w]
             rfl
            refine pure_ (i := 8) (N := some 11) (v := ?_) (a' := ?_) #[true, true, true, true, true, true, true, true, true, false] rfl rfl (any_of HT_.out (by kernel_rfl)) (fun _ _ _ h => h) (Or.inl ⟨by rfl, ?_⟩) ?_ ?_
            rotate_left
            ·intro w'
             go_simp
             with_reducible rfl
            rotate_left
            ·simp only [Act.put, zsi, zcz, zcs, i64_w, i32_w]
             rfl
            refine pure_ (i := 9) (N := some 12) (v := ?_) (a' := ?_) #[true, true, true, true, true, true, true, true, true, true] rfl rfl (any_of HT_.out (by kernel_rfl)) (fun _ _ _ h => h) (Or.inl ⟨by rfl, ?_⟩) ?_ ?_
            rotate_left
            ·intro w'
             go_simp
             with_reducible rfl
            rotate_left
            ·simp only [Act.put, zsi, zcz, zcs, i64_w, i32_w]
             rfl
            refine done_ (done_of HT_.out (by kernel_rfl)) ?_
            try go_wp2
            go_ret2
            exact ⟨by first | rfl | (simp [*] <;> rfl), by repeat (first | (with_reducible first | exact HB.out | apply bal | apply pwB_ | apply bd1 | refine bse ?_ GE268.out) | exact HB.out)⟩
           ·rw [if_neg c57] at H
            have c57b0 : (a1 == 5) = false := beq_eq_false_iff_ne.mpr c57
            have c57b1 : (a1 != 5) = true := bne_iff_ne.mpr c57
            simp only [Option.some.injEq, Prod.mk.injEq] at H
            obtain ⟨rfl, rfl⟩ := H
            try go_wp2
            have n0_ := As0.mk (bkd BK268.out)
            have n1_ := As0.mk (bd1 HB.out)
            clear BK268
            clear HB
            have BK268 := n0_
            have HB := n1_
            clear n0_ n1_
            refine start_ (n := 10) (S := fun w' => w'.cell? ⟨gb268, 0, none⟩ = some (.int .i64 t266) ∧ w'.cell? ⟨gb268, 1, none⟩ = some (.int .i64 t267)) (ds := []) #[false, false, false, false, false, false, false, false, false, false] (by kernel_rfl) rfl rfl ⟨(bce BK268.out 0).trans rfl, (bce BK268.out 1).trans rfl⟩ (fun hHeld => ?_); refine with_tabW floats_Rel.tab6 floats_Rel.bits6 (fun HT_ HW_ => ?_)
            generalize wc.drew = w61 at BK268 HB hHeld ⊢
            refine pure_ (i := 1) (N := some 36) (v := ?_) (a' := ?_) #[false, true, false, false, false, false, false, false, false, false] rfl rfl (any_of HT_.out (by kernel_rfl)) (fun _ _ _ h => h) (Or.inl ⟨by rfl, ?_⟩) ?_ ?_
            rotate_left
            ·intro w'
             go_simp
             with_reducible rfl
            rotate_left
            ·simp only [Act.put, zsi, zcz, zcs, i64_w, i32_w]
             rfl
            refine pure_ (i := 2) (N := some 37) (v := ?_) (a' := ?_) #[false, true, true, false, false, false, false, false, false, false] rfl rfl (any_of HT_.out (by kernel_rfl)) (fun _ _ _ h => h) (Or.inl ⟨by rfl, ?_⟩) ?_ ?_
            rotate_left
            ·intro w'
             go_simp
             with_reducible rfl
            rotate_left
            ·simp only [Act.put, zsi, zcz, zcs, i64_w, i32_w]
             rfl
            refine pure_ (i := 5) (N := some 40) (v := ?_) (a' := ?_) #[false, true, true, false, false, true, false, false, false, false] rfl rfl (any_of HT_.out (by kernel_rfl)) (fun _ _ _ h => h) (Or.inl ⟨by rfl, ?_⟩) ?_ ?_
            rotate_left
            ·intro w'
             go_simp
             with_reducible rfl
            rotate_left
            ·simp only [Act.put, zsi, zcz, zcs, i64_w, i32_w]
             rfl
            refine pure_ (i := 6) (N := some 41) (v := ?_) (a' := ?_) #[false, true, true, false, false, true, true, false, false, false] rfl rfl (any_of HT_.out (by kernel_rfl)) (fun _ _ _ h => h) (Or.inl ⟨by rfl, ?_⟩) ?_ ?_
            rotate_left
            ·intro w'
             go_simp
             with_reducible rfl
            rotate_left
            ·simp only [Act.put, zsi, zcz, zcs, i64_w, i32_w]
             rfl
            refine take_ (i := 0) (N := some 35) (v := ?_) (a' := ?_) #[true, true, true, false, false, true, true, false, false, false] rfl rfl (take_ofW HT_.out HW_.out (by kernel_rfl)) (fun _ _ _ h => h) (Or.inl ⟨by rfl, ?_⟩) hHeld ?_ ?_
            rotate_left
            ·rintro w' ⟨s0, s1⟩
             go_simp
             with_reducible rfl
            rotate_left
            ·simp only [Act.put, zsi, zcz, zcs, i64_w, i32_w]
             rfl
            refine take_ (i := 4) (N := some 39) (v := ?_) (a' := ?_) #[true, true, true, false, true, true, true, false, false, false] rfl rfl (take_ofW HT_.out HW_.out (by kernel_rfl)) (fun _ _ _ h => h) (Or.inl ⟨by rfl, ?_⟩) hHeld ?_ ?_
            rotate_left
            ·rintro w' ⟨s0, s1⟩
             go_simp
             with_reducible rfl
            rotate_left
            ·simp only [Act.put, zsi, zcz, zcs, i64_w, i32_w]
             rfl
            refine one_ (i := 3) (N := some 38) #[true, true, true, true, true, true, true, false, false, false] rfl rfl (one_of HT_.out (by kernel_rfl)) (by decide) (fun K hK => ?_)
            refine goes_ Try.func41 (by kernel_rfl) rfl #[.agg #[.int .i64 t266, .int .i64 t267], .int .u64 a2, .int .u64 a3] (by rfl) rfl rfl (by (try simp only [zmt, zmc, zmn]); first | done | rfl) ?_
            with_reducible refine (ff_less.calls t266 t267 a2 a3 t272 _ A31.out).mono ?_
            rintro e w62 ⟨rfl, hb⟩
            refine ⟨_, rfl, ?_⟩
            have n0_ := As0.mk (bkb (g := gb268) (o := .cells #[.int .i64 t266, .int .i64 t267] 43 (0, 0)) (by (with_reducible repeat (first | refine bkN ?_ _ | refine bkd ?_ | refine bka ?_ _)); exact BK268.out) hb)
            have n1_ := As0.mk (bst (by repeat (first | (with_reducible first | exact HB.out | apply bal | apply pwB_ | apply bd1 | refine bse ?_ GE268.out) | exact HB.out)) hb)
            clear BK268
            clear HB
            have BK268 := n0_
            have HB := n1_
            clear n0_ n1_
            (try clear hb)
            (try clear hb2)
            (try clear hk)
            (try clear hi)
            refine hK.out _ _ ⟨(bce BK268.out 0).trans rfl, (bce BK268.out 1).trans rfl⟩ (fun hHeld => ?_)
            clear hK K
            refine norm_ (a' := ?_) ?_ ?_
            rotate_left
            ·show Act.put _ (some 38) _ = _
             simp only [Act.put, zsi, zcz, zcs, i64_w, i32_w]
             rfl
            refine one_ (i := 7) (N := some 42) #[true, true, true, true, true, true, true, true, false, false] rfl rfl (one_of HT_.out (by kernel_rfl)) (by decide) (fun K hK => ?_)
            refine goes_ Try.func41 (by kernel_rfl) rfl #[.agg #[.int .i64 t266, .int .i64 t267], .int .u64 a3, .int .u64 a2] (by rfl) rfl rfl (by (try simp only [zmt, zmc, zmn]); first | done | rfl) ?_
            with_reducible refine (ff_less.calls t266 t267 a3 a2 t273 _ A32.out).mono ?_
            rintro e w63 ⟨rfl, hb⟩
            refine ⟨_, rfl, ?_⟩
            have n0_ := As0.mk (bkb (g := gb268) (o := .cells #[.int .i64 t266, .int .i64 t267] 43 (0, 0)) (by (with_reducible repeat (first | refine bkN ?_ _ | refine bkd ?_ | refine bka ?_ _)); exact BK268.out) hb)
            have n1_ := As0.mk (bst (by repeat (first | (with_reducible first | exact HB.out | apply bal | apply pwB_ | apply bd1 | refine bse ?_ GE268.out) | exact HB.out)) hb)
            clear BK268
            clear HB
            have BK268 := n0_
            have HB := n1_
            clear n0_ n1_
            (try clear hb)
            (try clear hb2)
            (try clear hk)
            (try clear hi)
            refine hK.out _ _ ⟨(bce BK268.out 0).trans rfl, (bce BK268.out 1).trans rfl⟩ (fun hHeld => ?_)
            clear hK K
            refine norm_ (a' := ?_) ?_ ?_
            rotate_left
            ·show Act.put _ (some 42) _ = _
             simp only [Act.put, zsi, zcz, zcs, i64_w, i32_w]
             rfl
            refine pure_ (i := 8) (N := some 11) (v := ?_) (a' := ?_) #[true, true, true, true, true, true, true, true, true, false] rfl rfl (any_of HT_.out (by kernel_rfl)) (fun _ _ _ h => h) (Or.inl ⟨by rfl, ?_⟩) ?_ ?_
            rotate_left
            ·intro w'
             go_simp
             with_reducible rfl
            rotate_left
            ·simp only [Act.put, zsi, zcz, zcs, i64_w, i32_w]
             rfl
            refine pure_ (i := 9) (N := some 12) (v := ?_) (a' := ?_) #[true, true, true, true, true, true, true, true, true, true] rfl rfl (any_of HT_.out (by kernel_rfl)) (fun _ _ _ h => h) (Or.inl ⟨by rfl, ?_⟩) ?_ ?_
            rotate_left
            ·intro w'
             go_simp
             with_reducible rfl
            rotate_left
            ·simp only [Act.put, zsi, zcz, zcs, i64_w, i32_w]
             rfl
            refine done_ (done_of HT_.out (by kernel_rfl)) ?_
            try go_wp2
            go_ret2
            exact ⟨by first | rfl | (simp [*] <;> rfl), by repeat (first | (with_reducible first | exact HB.out | apply bal | apply pwB_ | apply bd1 | refine bse ?_ GE268.out) | exact HB.out)⟩
end Go.Proofs.Ytjfmomogidgbpaa.PFl
namespace Go.Proofs.Ytjfmomogidgbpaa.PFl
open Go.RowKit Go.Proofs.YtjfmomogidgbpaaW.PrintWords Go.Proofs.YtjfmomogidgbpaaW.PrintLast Go.Proofs.YtjfmomogidgbpaaW.PrintMore
attribute [local go_sem] max2_int min2_int max_two min_two max_three min_three max_four min_four
set_option linter.unusedVariables false
set_option linter.unusedSimpArgs false
def floats_Kind.f (a0 : Int) (a1 : Int) : Option (Int) := (floats_of.f a0).bind fun bt274 => ((ff_size.f bt274.1 bt274.2 a1).bind fun t277 => ((ff_none.f bt274.1 bt274.2).bind fun t278 => (if t278 = true then (some 0) else (if t277 = 0 then (some 1) else ((ff_infinity.f bt274.1 bt274.2).bind fun t279 => (if t277 < t279 then (some 2) else ((ff_infinity.f bt274.1 bt274.2).bind fun t280 => (if t277 = t280 then (some 3) else (some 4)))))))))
set_option maxHeartbeats 8000000 in
set_option maxRecDepth 100000 in
theorem floats_Kind.calls (a0 : Int) (a1 : Int) (r : Int) (w : World) (h : floats_Kind.f a0 a1 = some r) :
  Calls Try.prog 22 #[.int .i64 a0, .int .u64 a1] w fun e w' => e = .returned (.int .i64 r) ∧ Below w.heap.size w w' := by
 have hu43 := Try.underlying43
 have HB := As0.mk (Below.refl w.heap.size w)
 have H : ((floats_of.f a0).bind fun bt274 => ((ff_size.f bt274.1 bt274.2 a1).bind fun t277 => ((ff_none.f bt274.1 bt274.2).bind fun t278 => (if t278 = true then (some 0) else (if t277 = 0 then (some 1) else ((ff_infinity.f bt274.1 bt274.2).bind fun t279 => (if t277 < t279 then (some 2) else ((ff_infinity.f bt274.1 bt274.2).bind fun t280 => (if t277 = t280 then (some 3) else (some 4)))))))))) = some r := h
 clear h
 replace H := zob H
 obtain ⟨⟨t274, t275⟩, A30, H⟩ := H
 replace H : ((ff_size.f t274 t275 a1).bind fun t277 => ((ff_none.f t274 t275).bind fun t278 => (if t278 = true then (some 0) else (if t277 = 0 then (some 1) else ((ff_infinity.f t274 t275).bind fun t279 => (if t277 < t279 then (some 2) else ((ff_infinity.f t274 t275).bind fun t280 => (if t277 = t280 then (some 3) else (some 4))))))))) = some r := H
 have A3 := As0.mk A30
 clear A30
 replace H := zob H
 obtain ⟨t277, A40, H⟩ := H
 replace H : ((ff_none.f t274 t275).bind fun t278 => (if t278 = true then (some 0) else (if t277 = 0 then (some 1) else ((ff_infinity.f t274 t275).bind fun t279 => (if t277 < t279 then (some 2) else ((ff_infinity.f t274 t275).bind fun t280 => (if t277 = t280 then (some 3) else (some 4)))))))) = some r := H
 have A4 := As0.mk A40
 clear A40
 replace H := zob H
 obtain ⟨t278, A50, H⟩ := H
 replace H : (if t278 = true then (some 0) else (if t277 = 0 then (some 1) else ((ff_infinity.f t274 t275).bind fun t279 => (if t277 < t279 then (some 2) else ((ff_infinity.f t274 t275).bind fun t280 => (if t277 = t280 then (some 3) else (some 4))))))) = some r := H
 have A5 := As0.mk A50
 clear A50
 by_cases c6 : t278 = true
 ·subst c6
  have H1 : (some 0) = some r := by rw [if_pos rfl] at H; exact H
  clear H
  have H := H1
  clear H1
  obtain rfl := Option.some.inj H
  go_enter Try.func22, Try.ntmps22
  go_wp2_with (first | ((with_reducible refine gcl (f := 31) rfl ?_); refine goesL_ (some 8) rfl rfl Try.func31 (by kernel_rfl) rfl #[.int .i64 a0] rfl (by (try simp only [zmt, zmc, zmn]); first | done | rfl) ?_; (with_reducible refine (floats_of.calls a0 t274 t275 _ A3.out).mono ?_); rintro e w7 ⟨rfl, hb⟩; refine ⟨_, rfl, ?_⟩; have n0_ := As0.mk (bst (by repeat (first | (with_reducible first | exact HB.out | apply bal | apply pwB_ | apply bd1) | exact HB.out)) hb); clear HB; have HB := n0_; clear n0_; (try clear hb); (try clear hb2); (try clear hk); (try clear hi)) | ((with_reducible refine gate_dst (N := 5) rfl ?_); refine box_event ?hg (N := 5) ?hd (cs := #[.int .i64 0, .int .i64 0]) (t := 43) ?hr ?_; (case hd => rfl); (case hg => rfl); (case hr => first | (go_simp; done) | (go_simp; rfl)); intro gb276 hg w8 hbox hb; have n0_ := As0.mk (bst (by repeat (first | (with_reducible first | exact HB.out | apply bal | apply pwB_ | apply bd1) | exact HB.out)) hb); have n1_ := As0.mk (hbox); have n2_ := As0.mk ((by rw [hg]; exact (below_size (by repeat (first | (with_reducible first | exact HB.out | apply bal | apply pwB_ | apply bd1) | exact HB.out))) : w.heap.size ≤ gb276)); have n3_ := As0.mk ((by rw [hg]; exact (below_size (by repeat (first | (with_reducible first | exact HB.out | apply bal | apply pwB_ | apply bd1) | exact HB.out))) : w.heap.size ≤ gb276)); clear HB; have HB := n0_; have BK276 := n1_; have GW276 := n2_; have GE276 := n3_; clear n0_ n1_ n2_ n3_; clear hb hbox hg; have hcz9_0 : w8.cell? ⟨gb276, 0, none⟩ = some (.int .i64 0) := (bce BK276.out 0).trans rfl; have hcz9_1 : w8.cell? ⟨gb276, 1, none⟩ = some (.int .i64 0) := (bce BK276.out 1).trans rfl; have hfz9_0 := bkf BK276.out 0; have hfz9_1 := bkf BK276.out 1) | ((with_reducible refine gcl (f := 40) rfl ?_); refine goesL_ (some 11) rfl rfl Try.func40 (by kernel_rfl) rfl #[.agg #[.int .i64 t274, .int .i64 t275], .int .u64 a1] rfl (by (try simp only [zmt, zmc, zmn]); first | done | rfl) ?_; (with_reducible refine (ff_size.calls t274 t275 a1 t277 _ A4.out).mono ?_); rintro e w10 ⟨rfl, hb⟩; refine ⟨_, rfl, ?_⟩; have n0_ := As0.mk (bkb (g := gb276) (o := .cells #[.int .i64 t274, .int .i64 t275] 43 (0, 0)) (by (with_reducible repeat (first | refine bkN ?_ _ | refine bkd ?_ | refine bka ?_ _)); refine blk_put (cs := #[.int .i64 t274, .int .i64 0]) ?_ 1 _ rfl; (with_reducible repeat (first | refine bkN ?_ _ | refine bkd ?_ | refine bka ?_ _)); refine blk_put (cs := #[.int .i64 0, .int .i64 0]) ?_ 0 _ rfl; (with_reducible repeat (first | refine bkN ?_ _ | refine bkd ?_ | refine bka ?_ _)); exact BK276.out) hb); have n1_ := As0.mk (bst (by repeat (first | (with_reducible first | exact HB.out | apply bal | apply pwB_ | apply bd1 | refine bse ?_ GE276.out) | exact HB.out)) hb); clear BK276; clear HB; have BK276 := n0_; have HB := n1_; clear n0_ n1_; (try clear hb); (try clear hb2); (try clear hk); (try clear hi); have hcz11_0 : w10.cell? ⟨gb276, 0, none⟩ = some (.int .i64 t274) := (bce BK276.out 0).trans rfl; have hcz11_1 : w10.cell? ⟨gb276, 1, none⟩ = some (.int .i64 t275) := (bce BK276.out 1).trans rfl; have hfz11_0 := bkf BK276.out 0; have hfz11_1 := bkf BK276.out 1) | ((with_reducible refine gcl (f := 32) rfl ?_); refine goesL_ (some 14) rfl rfl Try.func32 (by kernel_rfl) rfl #[.agg #[.int .i64 t274, .int .i64 t275]] rfl (by (try simp only [zmt, zmc, zmn]); first | done | rfl) ?_; (with_reducible refine (ff_none.calls t274 t275 true _ A5.out).mono ?_); rintro e w12 ⟨rfl, hb⟩; refine ⟨_, rfl, ?_⟩; have n0_ := As0.mk (bkb (g := gb276) (o := .cells #[.int .i64 t274, .int .i64 t275] 43 (0, 0)) (by (with_reducible repeat (first | refine bkN ?_ _ | refine bkd ?_ | refine bka ?_ _)); exact BK276.out) hb); have n1_ := As0.mk (bst (by repeat (first | (with_reducible first | exact HB.out | apply bal | apply pwB_ | apply bd1 | refine bse ?_ GE276.out) | exact HB.out)) hb); clear BK276; clear HB; have BK276 := n0_; have HB := n1_; clear n0_ n1_; (try clear hb); (try clear hb2); (try clear hk); (try clear hi)))
  go_ret
  exact ⟨by first | rfl | (simp [*] <;> rfl), by repeat (first | (with_reducible first | exact HB.out | apply bal | apply pwB_ | apply bd1 | refine bse ?_ GE276.out) | exact HB.out)⟩
 ·replace c6 := Bool.eq_false_iff.mpr c6
  subst c6
  have H1 : (if t277 = 0 then (some 1) else ((ff_infinity.f t274 t275).bind fun t279 => (if t277 < t279 then (some 2) else ((ff_infinity.f t274 t275).bind fun t280 => (if t277 = t280 then (some 3) else (some 4)))))) = some r := by rw [if_neg (show ¬ (false = true) by decide)] at H; exact H
  clear H
  have H := H1
  clear H1
  by_cases c13 : t277 = 0
  ·rw [if_pos c13] at H
   have c13b0 : (t277 == 0) = true := beq_iff_eq.mpr c13
   have c13b1 : (t277 != 0) = false := bne_eq_false_iff_eq.mpr c13
   clear c13
   obtain rfl := Option.some.inj H
   go_enter Try.func22, Try.ntmps22
   go_wp2_with (first | ((with_reducible refine gcl (f := 31) rfl ?_); refine goesL_ (some 8) rfl rfl Try.func31 (by kernel_rfl) rfl #[.int .i64 a0] rfl (by (try simp only [zmt, zmc, zmn]); first | done | rfl) ?_; (with_reducible refine (floats_of.calls a0 t274 t275 _ A3.out).mono ?_); rintro e w14 ⟨rfl, hb⟩; refine ⟨_, rfl, ?_⟩; have n0_ := As0.mk (bst (by repeat (first | (with_reducible first | exact HB.out | apply bal | apply pwB_ | apply bd1) | exact HB.out)) hb); clear HB; have HB := n0_; clear n0_; (try clear hb); (try clear hb2); (try clear hk); (try clear hi)) | ((with_reducible refine gate_dst (N := 5) rfl ?_); refine box_event ?hg (N := 5) ?hd (cs := #[.int .i64 0, .int .i64 0]) (t := 43) ?hr ?_; (case hd => rfl); (case hg => rfl); (case hr => first | (go_simp; done) | (go_simp; rfl)); intro gb276 hg w15 hbox hb; have n0_ := As0.mk (bst (by repeat (first | (with_reducible first | exact HB.out | apply bal | apply pwB_ | apply bd1) | exact HB.out)) hb); have n1_ := As0.mk (hbox); have n2_ := As0.mk ((by rw [hg]; exact (below_size (by repeat (first | (with_reducible first | exact HB.out | apply bal | apply pwB_ | apply bd1) | exact HB.out))) : w.heap.size ≤ gb276)); have n3_ := As0.mk ((by rw [hg]; exact (below_size (by repeat (first | (with_reducible first | exact HB.out | apply bal | apply pwB_ | apply bd1) | exact HB.out))) : w.heap.size ≤ gb276)); clear HB; have HB := n0_; have BK276 := n1_; have GW276 := n2_; have GE276 := n3_; clear n0_ n1_ n2_ n3_; clear hb hbox hg; have hcz16_0 : w15.cell? ⟨gb276, 0, none⟩ = some (.int .i64 0) := (bce BK276.out 0).trans rfl; have hcz16_1 : w15.cell? ⟨gb276, 1, none⟩ = some (.int .i64 0) := (bce BK276.out 1).trans rfl; have hfz16_0 := bkf BK276.out 0; have hfz16_1 := bkf BK276.out 1) | ((with_reducible refine gcl (f := 40) rfl ?_); refine goesL_ (some 11) rfl rfl Try.func40 (by kernel_rfl) rfl #[.agg #[.int .i64 t274, .int .i64 t275], .int .u64 a1] rfl (by (try simp only [zmt, zmc, zmn]); first | done | rfl) ?_; (with_reducible refine (ff_size.calls t274 t275 a1 t277 _ A4.out).mono ?_); rintro e w17 ⟨rfl, hb⟩; refine ⟨_, rfl, ?_⟩; have n0_ := As0.mk (bkb (g := gb276) (o := .cells #[.int .i64 t274, .int .i64 t275] 43 (0, 0)) (by (with_reducible repeat (first | refine bkN ?_ _ | refine bkd ?_ | refine bka ?_ _)); refine blk_put (cs := #[.int .i64 t274, .int .i64 0]) ?_ 1 _ rfl; (with_reducible repeat (first | refine bkN ?_ _ | refine bkd ?_ | refine bka ?_ _)); refine blk_put (cs := #[.int .i64 0, .int .i64 0]) ?_ 0 _ rfl; (with_reducible repeat (first | refine bkN ?_ _ | refine bkd ?_ | refine bka ?_ _)); exact BK276.out) hb); have n1_ := As0.mk (bst (by repeat (first | (with_reducible first | exact HB.out | apply bal | apply pwB_ | apply bd1 | refine bse ?_ GE276.out) | exact HB.out)) hb); clear BK276; clear HB; have BK276 := n0_; have HB := n1_; clear n0_ n1_; (try clear hb); (try clear hb2); (try clear hk); (try clear hi); have hcz18_0 : w17.cell? ⟨gb276, 0, none⟩ = some (.int .i64 t274) := (bce BK276.out 0).trans rfl; have hcz18_1 : w17.cell? ⟨gb276, 1, none⟩ = some (.int .i64 t275) := (bce BK276.out 1).trans rfl; have hfz18_0 := bkf BK276.out 0; have hfz18_1 := bkf BK276.out 1) | ((with_reducible refine gcl (f := 32) rfl ?_); refine goesL_ (some 14) rfl rfl Try.func32 (by kernel_rfl) rfl #[.agg #[.int .i64 t274, .int .i64 t275]] rfl (by (try simp only [zmt, zmc, zmn]); first | done | rfl) ?_; (with_reducible refine (ff_none.calls t274 t275 false _ A5.out).mono ?_); rintro e w19 ⟨rfl, hb⟩; refine ⟨_, rfl, ?_⟩; have n0_ := As0.mk (bkb (g := gb276) (o := .cells #[.int .i64 t274, .int .i64 t275] 43 (0, 0)) (by (with_reducible repeat (first | refine bkN ?_ _ | refine bkd ?_ | refine bka ?_ _)); exact BK276.out) hb); have n1_ := As0.mk (bst (by repeat (first | (with_reducible first | exact HB.out | apply bal | apply pwB_ | apply bd1 | refine bse ?_ GE276.out) | exact HB.out)) hb); clear BK276; clear HB; have BK276 := n0_; have HB := n1_; clear n0_ n1_; (try clear hb); (try clear hb2); (try clear hk); (try clear hi)))
   go_ret
   exact ⟨by first | rfl | (simp [*] <;> rfl), by repeat (first | (with_reducible first | exact HB.out | apply bal | apply pwB_ | apply bd1 | refine bse ?_ GE276.out) | exact HB.out)⟩
  ·rw [if_neg c13] at H
   have c13b0 : (t277 == 0) = false := beq_eq_false_iff_ne.mpr c13
   have c13b1 : (t277 != 0) = true := bne_iff_ne.mpr c13
   replace H := zob H
   obtain ⟨t279, A200, H⟩ := H
   replace H : (if t277 < t279 then (some 2) else ((ff_infinity.f t274 t275).bind fun t280 => (if t277 = t280 then (some 3) else (some 4)))) = some r := H
   have A20 := As0.mk A200
   clear A200
   by_cases c21 : t277 < t279
   ·rw [if_pos c21] at H
    have c21b0 : decide (t277 < t279) = true := decide_eq_true c21
    clear c21
    obtain rfl := Option.some.inj H
    go_enter Try.func22, Try.ntmps22
    go_wp2_with (first | ((with_reducible refine gcl (f := 31) rfl ?_); refine goesL_ (some 8) rfl rfl Try.func31 (by kernel_rfl) rfl #[.int .i64 a0] rfl (by (try simp only [zmt, zmc, zmn]); first | done | rfl) ?_; (with_reducible refine (floats_of.calls a0 t274 t275 _ A3.out).mono ?_); rintro e w22 ⟨rfl, hb⟩; refine ⟨_, rfl, ?_⟩; have n0_ := As0.mk (bst (by repeat (first | (with_reducible first | exact HB.out | apply bal | apply pwB_ | apply bd1) | exact HB.out)) hb); clear HB; have HB := n0_; clear n0_; (try clear hb); (try clear hb2); (try clear hk); (try clear hi)) | ((with_reducible refine gate_dst (N := 5) rfl ?_); refine box_event ?hg (N := 5) ?hd (cs := #[.int .i64 0, .int .i64 0]) (t := 43) ?hr ?_; (case hd => rfl); (case hg => rfl); (case hr => first | (go_simp; done) | (go_simp; rfl)); intro gb276 hg w23 hbox hb; have n0_ := As0.mk (bst (by repeat (first | (with_reducible first | exact HB.out | apply bal | apply pwB_ | apply bd1) | exact HB.out)) hb); have n1_ := As0.mk (hbox); have n2_ := As0.mk ((by rw [hg]; exact (below_size (by repeat (first | (with_reducible first | exact HB.out | apply bal | apply pwB_ | apply bd1) | exact HB.out))) : w.heap.size ≤ gb276)); have n3_ := As0.mk ((by rw [hg]; exact (below_size (by repeat (first | (with_reducible first | exact HB.out | apply bal | apply pwB_ | apply bd1) | exact HB.out))) : w.heap.size ≤ gb276)); clear HB; have HB := n0_; have BK276 := n1_; have GW276 := n2_; have GE276 := n3_; clear n0_ n1_ n2_ n3_; clear hb hbox hg; have hcz24_0 : w23.cell? ⟨gb276, 0, none⟩ = some (.int .i64 0) := (bce BK276.out 0).trans rfl; have hcz24_1 : w23.cell? ⟨gb276, 1, none⟩ = some (.int .i64 0) := (bce BK276.out 1).trans rfl; have hfz24_0 := bkf BK276.out 0; have hfz24_1 := bkf BK276.out 1) | ((with_reducible refine gcl (f := 40) rfl ?_); refine goesL_ (some 11) rfl rfl Try.func40 (by kernel_rfl) rfl #[.agg #[.int .i64 t274, .int .i64 t275], .int .u64 a1] rfl (by (try simp only [zmt, zmc, zmn]); first | done | rfl) ?_; (with_reducible refine (ff_size.calls t274 t275 a1 t277 _ A4.out).mono ?_); rintro e w25 ⟨rfl, hb⟩; refine ⟨_, rfl, ?_⟩; have n0_ := As0.mk (bkb (g := gb276) (o := .cells #[.int .i64 t274, .int .i64 t275] 43 (0, 0)) (by (with_reducible repeat (first | refine bkN ?_ _ | refine bkd ?_ | refine bka ?_ _)); refine blk_put (cs := #[.int .i64 t274, .int .i64 0]) ?_ 1 _ rfl; (with_reducible repeat (first | refine bkN ?_ _ | refine bkd ?_ | refine bka ?_ _)); refine blk_put (cs := #[.int .i64 0, .int .i64 0]) ?_ 0 _ rfl; (with_reducible repeat (first | refine bkN ?_ _ | refine bkd ?_ | refine bka ?_ _)); exact BK276.out) hb); have n1_ := As0.mk (bst (by repeat (first | (with_reducible first | exact HB.out | apply bal | apply pwB_ | apply bd1 | refine bse ?_ GE276.out) | exact HB.out)) hb); clear BK276; clear HB; have BK276 := n0_; have HB := n1_; clear n0_ n1_; (try clear hb); (try clear hb2); (try clear hk); (try clear hi); have hcz26_0 : w25.cell? ⟨gb276, 0, none⟩ = some (.int .i64 t274) := (bce BK276.out 0).trans rfl; have hcz26_1 : w25.cell? ⟨gb276, 1, none⟩ = some (.int .i64 t275) := (bce BK276.out 1).trans rfl; have hfz26_0 := bkf BK276.out 0; have hfz26_1 := bkf BK276.out 1) | ((with_reducible refine gcl (f := 32) rfl ?_); refine goesL_ (some 14) rfl rfl Try.func32 (by kernel_rfl) rfl #[.agg #[.int .i64 t274, .int .i64 t275]] rfl (by (try simp only [zmt, zmc, zmn]); first | done | rfl) ?_; (with_reducible refine (ff_none.calls t274 t275 false _ A5.out).mono ?_); rintro e w27 ⟨rfl, hb⟩; refine ⟨_, rfl, ?_⟩; have n0_ := As0.mk (bkb (g := gb276) (o := .cells #[.int .i64 t274, .int .i64 t275] 43 (0, 0)) (by (with_reducible repeat (first | refine bkN ?_ _ | refine bkd ?_ | refine bka ?_ _)); exact BK276.out) hb); have n1_ := As0.mk (bst (by repeat (first | (with_reducible first | exact HB.out | apply bal | apply pwB_ | apply bd1 | refine bse ?_ GE276.out) | exact HB.out)) hb); clear BK276; clear HB; have BK276 := n0_; have HB := n1_; clear n0_ n1_; (try clear hb); (try clear hb2); (try clear hk); (try clear hi); have hcz28_0 : w27.cell? ⟨gb276, 0, none⟩ = some (.int .i64 t274) := (bce BK276.out 0).trans rfl; have hcz28_1 : w27.cell? ⟨gb276, 1, none⟩ = some (.int .i64 t275) := (bce BK276.out 1).trans rfl; have hfz28_0 := bkf BK276.out 0; have hfz28_1 := bkf BK276.out 1) | ((with_reducible refine gcl (f := 50) rfl ?_); refine goesL_ (some 21) rfl rfl Try.func50 (by kernel_rfl) rfl #[.agg #[.int .i64 t274, .int .i64 t275]] rfl (by (try simp only [zmt, zmc, zmn]); first | done | rfl) ?_; (with_reducible refine (ff_infinity.calls t274 t275 t279 _ A20.out).mono ?_); rintro e w29 ⟨rfl, hb⟩; refine ⟨_, rfl, ?_⟩; have n0_ := As0.mk (bkb (g := gb276) (o := .cells #[.int .i64 t274, .int .i64 t275] 43 (0, 0)) (by (with_reducible repeat (first | refine bkN ?_ _ | refine bkd ?_ | refine bka ?_ _)); exact BK276.out) hb); have n1_ := As0.mk (bst (by repeat (first | (with_reducible first | exact HB.out | apply bal | apply pwB_ | apply bd1 | refine bse ?_ GE276.out) | exact HB.out)) hb); clear BK276; clear HB; have BK276 := n0_; have HB := n1_; clear n0_ n1_; (try clear hb); (try clear hb2); (try clear hk); (try clear hi)))
    go_ret
    exact ⟨by first | rfl | (simp [*] <;> rfl), by repeat (first | (with_reducible first | exact HB.out | apply bal | apply pwB_ | apply bd1 | refine bse ?_ GE276.out) | exact HB.out)⟩
   ·rw [if_neg c21] at H
    have c21b0 : decide (t277 < t279) = false := decide_eq_false c21
    clear c21
    replace H := zob H
    obtain ⟨t280, A300, H⟩ := H
    replace H : (if t277 = t280 then (some 3) else (some 4)) = some r := H
    have A30 := As0.mk A300
    clear A300
    by_cases c31 : t277 = t280
    ·rw [if_pos c31] at H
     have c31b0 : (t277 == t280) = true := beq_iff_eq.mpr c31
     have c31b1 : (t277 != t280) = false := bne_eq_false_iff_eq.mpr c31
     clear c31
     obtain rfl := Option.some.inj H
     go_enter Try.func22, Try.ntmps22
     go_wp2_with (first | ((with_reducible refine gcl (f := 31) rfl ?_); refine goesL_ (some 8) rfl rfl Try.func31 (by kernel_rfl) rfl #[.int .i64 a0] rfl (by (try simp only [zmt, zmc, zmn]); first | done | rfl) ?_; (with_reducible refine (floats_of.calls a0 t274 t275 _ A3.out).mono ?_); rintro e w32 ⟨rfl, hb⟩; refine ⟨_, rfl, ?_⟩; have n0_ := As0.mk (bst (by repeat (first | (with_reducible first | exact HB.out | apply bal | apply pwB_ | apply bd1) | exact HB.out)) hb); clear HB; have HB := n0_; clear n0_; (try clear hb); (try clear hb2); (try clear hk); (try clear hi)) | ((with_reducible refine gate_dst (N := 5) rfl ?_); refine box_event ?hg (N := 5) ?hd (cs := #[.int .i64 0, .int .i64 0]) (t := 43) ?hr ?_; (case hd => rfl); (case hg => rfl); (case hr => first | (go_simp; done) | (go_simp; rfl)); intro gb276 hg w33 hbox hb; have n0_ := As0.mk (bst (by repeat (first | (with_reducible first | exact HB.out | apply bal | apply pwB_ | apply bd1) | exact HB.out)) hb); have n1_ := As0.mk (hbox); have n2_ := As0.mk ((by rw [hg]; exact (below_size (by repeat (first | (with_reducible first | exact HB.out | apply bal | apply pwB_ | apply bd1) | exact HB.out))) : w.heap.size ≤ gb276)); have n3_ := As0.mk ((by rw [hg]; exact (below_size (by repeat (first | (with_reducible first | exact HB.out | apply bal | apply pwB_ | apply bd1) | exact HB.out))) : w.heap.size ≤ gb276)); clear HB; have HB := n0_; have BK276 := n1_; have GW276 := n2_; have GE276 := n3_; clear n0_ n1_ n2_ n3_; clear hb hbox hg; have hcz34_0 : w33.cell? ⟨gb276, 0, none⟩ = some (.int .i64 0) := (bce BK276.out 0).trans rfl; have hcz34_1 : w33.cell? ⟨gb276, 1, none⟩ = some (.int .i64 0) := (bce BK276.out 1).trans rfl; have hfz34_0 := bkf BK276.out 0; have hfz34_1 := bkf BK276.out 1) | ((with_reducible refine gcl (f := 40) rfl ?_); refine goesL_ (some 11) rfl rfl Try.func40 (by kernel_rfl) rfl #[.agg #[.int .i64 t274, .int .i64 t275], .int .u64 a1] rfl (by (try simp only [zmt, zmc, zmn]); first | done | rfl) ?_; (with_reducible refine (ff_size.calls t274 t275 a1 t277 _ A4.out).mono ?_); rintro e w35 ⟨rfl, hb⟩; refine ⟨_, rfl, ?_⟩; have n0_ := As0.mk (bkb (g := gb276) (o := .cells #[.int .i64 t274, .int .i64 t275] 43 (0, 0)) (by (with_reducible repeat (first | refine bkN ?_ _ | refine bkd ?_ | refine bka ?_ _)); refine blk_put (cs := #[.int .i64 t274, .int .i64 0]) ?_ 1 _ rfl; (with_reducible repeat (first | refine bkN ?_ _ | refine bkd ?_ | refine bka ?_ _)); refine blk_put (cs := #[.int .i64 0, .int .i64 0]) ?_ 0 _ rfl; (with_reducible repeat (first | refine bkN ?_ _ | refine bkd ?_ | refine bka ?_ _)); exact BK276.out) hb); have n1_ := As0.mk (bst (by repeat (first | (with_reducible first | exact HB.out | apply bal | apply pwB_ | apply bd1 | refine bse ?_ GE276.out) | exact HB.out)) hb); clear BK276; clear HB; have BK276 := n0_; have HB := n1_; clear n0_ n1_; (try clear hb); (try clear hb2); (try clear hk); (try clear hi); have hcz36_0 : w35.cell? ⟨gb276, 0, none⟩ = some (.int .i64 t274) := (bce BK276.out 0).trans rfl; have hcz36_1 : w35.cell? ⟨gb276, 1, none⟩ = some (.int .i64 t275) := (bce BK276.out 1).trans rfl; have hfz36_0 := bkf BK276.out 0; have hfz36_1 := bkf BK276.out 1) | ((with_reducible refine gcl (f := 32) rfl ?_); refine goesL_ (some 14) rfl rfl Try.func32 (by kernel_rfl) rfl #[.agg #[.int .i64 t274, .int .i64 t275]] rfl (by (try simp only [zmt, zmc, zmn]); first | done | rfl) ?_; (with_reducible refine (ff_none.calls t274 t275 false _ A5.out).mono ?_); rintro e w37 ⟨rfl, hb⟩; refine ⟨_, rfl, ?_⟩; have n0_ := As0.mk (bkb (g := gb276) (o := .cells #[.int .i64 t274, .int .i64 t275] 43 (0, 0)) (by (with_reducible repeat (first | refine bkN ?_ _ | refine bkd ?_ | refine bka ?_ _)); exact BK276.out) hb); have n1_ := As0.mk (bst (by repeat (first | (with_reducible first | exact HB.out | apply bal | apply pwB_ | apply bd1 | refine bse ?_ GE276.out) | exact HB.out)) hb); clear BK276; clear HB; have BK276 := n0_; have HB := n1_; clear n0_ n1_; (try clear hb); (try clear hb2); (try clear hk); (try clear hi); have hcz38_0 : w37.cell? ⟨gb276, 0, none⟩ = some (.int .i64 t274) := (bce BK276.out 0).trans rfl; have hcz38_1 : w37.cell? ⟨gb276, 1, none⟩ = some (.int .i64 t275) := (bce BK276.out 1).trans rfl; have hfz38_0 := bkf BK276.out 0; have hfz38_1 := bkf BK276.out 1) | ((with_reducible refine gcl (f := 50) rfl ?_); refine goesL_ (some 21) rfl rfl Try.func50 (by kernel_rfl) rfl #[.agg #[.int .i64 t274, .int .i64 t275]] rfl (by (try simp only [zmt, zmc, zmn]); first | done | rfl) ?_; (with_reducible refine (ff_infinity.calls t274 t275 t279 _ A20.out).mono ?_); rintro e w39 ⟨rfl, hb⟩; refine ⟨_, rfl, ?_⟩; have n0_ := As0.mk (bkb (g := gb276) (o := .cells #[.int .i64 t274, .int .i64 t275] 43 (0, 0)) (by (with_reducible repeat (first | refine bkN ?_ _ | refine bkd ?_ | refine bka ?_ _)); exact BK276.out) hb); have n1_ := As0.mk (bst (by repeat (first | (with_reducible first | exact HB.out | apply bal | apply pwB_ | apply bd1 | refine bse ?_ GE276.out) | exact HB.out)) hb); clear BK276; clear HB; have BK276 := n0_; have HB := n1_; clear n0_ n1_; (try clear hb); (try clear hb2); (try clear hk); (try clear hi); have hcz40_0 : w39.cell? ⟨gb276, 0, none⟩ = some (.int .i64 t274) := (bce BK276.out 0).trans rfl; have hcz40_1 : w39.cell? ⟨gb276, 1, none⟩ = some (.int .i64 t275) := (bce BK276.out 1).trans rfl; have hfz40_0 := bkf BK276.out 0; have hfz40_1 := bkf BK276.out 1) | ((with_reducible refine gcl (f := 50) rfl ?_); refine goesL_ (some 26) rfl rfl Try.func50 (by kernel_rfl) rfl #[.agg #[.int .i64 t274, .int .i64 t275]] rfl (by (try simp only [zmt, zmc, zmn]); first | done | rfl) ?_; (with_reducible refine (ff_infinity.calls t274 t275 t280 _ A30.out).mono ?_); rintro e w41 ⟨rfl, hb⟩; refine ⟨_, rfl, ?_⟩; have n0_ := As0.mk (bkb (g := gb276) (o := .cells #[.int .i64 t274, .int .i64 t275] 43 (0, 0)) (by (with_reducible repeat (first | refine bkN ?_ _ | refine bkd ?_ | refine bka ?_ _)); exact BK276.out) hb); have n1_ := As0.mk (bst (by repeat (first | (with_reducible first | exact HB.out | apply bal | apply pwB_ | apply bd1 | refine bse ?_ GE276.out) | exact HB.out)) hb); clear BK276; clear HB; have BK276 := n0_; have HB := n1_; clear n0_ n1_; (try clear hb); (try clear hb2); (try clear hk); (try clear hi)))
     go_ret
     exact ⟨by first | rfl | (simp [*] <;> rfl), by repeat (first | (with_reducible first | exact HB.out | apply bal | apply pwB_ | apply bd1 | refine bse ?_ GE276.out) | exact HB.out)⟩
    ·rw [if_neg c31] at H
     have c31b0 : (t277 == t280) = false := beq_eq_false_iff_ne.mpr c31
     have c31b1 : (t277 != t280) = true := bne_iff_ne.mpr c31
     obtain rfl := Option.some.inj H
     go_enter Try.func22, Try.ntmps22
     go_wp2_with (first | ((with_reducible refine gcl (f := 31) rfl ?_); refine goesL_ (some 8) rfl rfl Try.func31 (by kernel_rfl) rfl #[.int .i64 a0] rfl (by (try simp only [zmt, zmc, zmn]); first | done | rfl) ?_; (with_reducible refine (floats_of.calls a0 t274 t275 _ A3.out).mono ?_); rintro e w42 ⟨rfl, hb⟩; refine ⟨_, rfl, ?_⟩; have n0_ := As0.mk (bst (by repeat (first | (with_reducible first | exact HB.out | apply bal | apply pwB_ | apply bd1) | exact HB.out)) hb); clear HB; have HB := n0_; clear n0_; (try clear hb); (try clear hb2); (try clear hk); (try clear hi)) | ((with_reducible refine gate_dst (N := 5) rfl ?_); refine box_event ?hg (N := 5) ?hd (cs := #[.int .i64 0, .int .i64 0]) (t := 43) ?hr ?_; (case hd => rfl); (case hg => rfl); (case hr => first | (go_simp; done) | (go_simp; rfl)); intro gb276 hg w43 hbox hb; have n0_ := As0.mk (bst (by repeat (first | (with_reducible first | exact HB.out | apply bal | apply pwB_ | apply bd1) | exact HB.out)) hb); have n1_ := As0.mk (hbox); have n2_ := As0.mk ((by rw [hg]; exact (below_size (by repeat (first | (with_reducible first | exact HB.out | apply bal | apply pwB_ | apply bd1) | exact HB.out))) : w.heap.size ≤ gb276)); have n3_ := As0.mk ((by rw [hg]; exact (below_size (by repeat (first | (with_reducible first | exact HB.out | apply bal | apply pwB_ | apply bd1) | exact HB.out))) : w.heap.size ≤ gb276)); clear HB; have HB := n0_; have BK276 := n1_; have GW276 := n2_; have GE276 := n3_; clear n0_ n1_ n2_ n3_; clear hb hbox hg; have hcz44_0 : w43.cell? ⟨gb276, 0, none⟩ = some (.int .i64 0) := (bce BK276.out 0).trans rfl; have hcz44_1 : w43.cell? ⟨gb276, 1, none⟩ = some (.int .i64 0) := (bce BK276.out 1).trans rfl; have hfz44_0 := bkf BK276.out 0; have hfz44_1 := bkf BK276.out 1) | ((with_reducible refine gcl (f := 40) rfl ?_); refine goesL_ (some 11) rfl rfl Try.func40 (by kernel_rfl) rfl #[.agg #[.int .i64 t274, .int .i64 t275], .int .u64 a1] rfl (by (try simp only [zmt, zmc, zmn]); first | done | rfl) ?_; (with_reducible refine (ff_size.calls t274 t275 a1 t277 _ A4.out).mono ?_); rintro e w45 ⟨rfl, hb⟩; refine ⟨_, rfl, ?_⟩; have n0_ := As0.mk (bkb (g := gb276) (o := .cells #[.int .i64 t274, .int .i64 t275] 43 (0, 0)) (by (with_reducible repeat (first | refine bkN ?_ _ | refine bkd ?_ | refine bka ?_ _)); refine blk_put (cs := #[.int .i64 t274, .int .i64 0]) ?_ 1 _ rfl; (with_reducible repeat (first | refine bkN ?_ _ | refine bkd ?_ | refine bka ?_ _)); refine blk_put (cs := #[.int .i64 0, .int .i64 0]) ?_ 0 _ rfl; (with_reducible repeat (first | refine bkN ?_ _ | refine bkd ?_ | refine bka ?_ _)); exact BK276.out) hb); have n1_ := As0.mk (bst (by repeat (first | (with_reducible first | exact HB.out | apply bal | apply pwB_ | apply bd1 | refine bse ?_ GE276.out) | exact HB.out)) hb); clear BK276; clear HB; have BK276 := n0_; have HB := n1_; clear n0_ n1_; (try clear hb); (try clear hb2); (try clear hk); (try clear hi); have hcz46_0 : w45.cell? ⟨gb276, 0, none⟩ = some (.int .i64 t274) := (bce BK276.out 0).trans rfl; have hcz46_1 : w45.cell? ⟨gb276, 1, none⟩ = some (.int .i64 t275) := (bce BK276.out 1).trans rfl; have hfz46_0 := bkf BK276.out 0; have hfz46_1 := bkf BK276.out 1) | ((with_reducible refine gcl (f := 32) rfl ?_); refine goesL_ (some 14) rfl rfl Try.func32 (by kernel_rfl) rfl #[.agg #[.int .i64 t274, .int .i64 t275]] rfl (by (try simp only [zmt, zmc, zmn]); first | done | rfl) ?_; (with_reducible refine (ff_none.calls t274 t275 false _ A5.out).mono ?_); rintro e w47 ⟨rfl, hb⟩; refine ⟨_, rfl, ?_⟩; have n0_ := As0.mk (bkb (g := gb276) (o := .cells #[.int .i64 t274, .int .i64 t275] 43 (0, 0)) (by (with_reducible repeat (first | refine bkN ?_ _ | refine bkd ?_ | refine bka ?_ _)); exact BK276.out) hb); have n1_ := As0.mk (bst (by repeat (first | (with_reducible first | exact HB.out | apply bal | apply pwB_ | apply bd1 | refine bse ?_ GE276.out) | exact HB.out)) hb); clear BK276; clear HB; have BK276 := n0_; have HB := n1_; clear n0_ n1_; (try clear hb); (try clear hb2); (try clear hk); (try clear hi); have hcz48_0 : w47.cell? ⟨gb276, 0, none⟩ = some (.int .i64 t274) := (bce BK276.out 0).trans rfl; have hcz48_1 : w47.cell? ⟨gb276, 1, none⟩ = some (.int .i64 t275) := (bce BK276.out 1).trans rfl; have hfz48_0 := bkf BK276.out 0; have hfz48_1 := bkf BK276.out 1) | ((with_reducible refine gcl (f := 50) rfl ?_); refine goesL_ (some 21) rfl rfl Try.func50 (by kernel_rfl) rfl #[.agg #[.int .i64 t274, .int .i64 t275]] rfl (by (try simp only [zmt, zmc, zmn]); first | done | rfl) ?_; (with_reducible refine (ff_infinity.calls t274 t275 t279 _ A20.out).mono ?_); rintro e w49 ⟨rfl, hb⟩; refine ⟨_, rfl, ?_⟩; have n0_ := As0.mk (bkb (g := gb276) (o := .cells #[.int .i64 t274, .int .i64 t275] 43 (0, 0)) (by (with_reducible repeat (first | refine bkN ?_ _ | refine bkd ?_ | refine bka ?_ _)); exact BK276.out) hb); have n1_ := As0.mk (bst (by repeat (first | (with_reducible first | exact HB.out | apply bal | apply pwB_ | apply bd1 | refine bse ?_ GE276.out) | exact HB.out)) hb); clear BK276; clear HB; have BK276 := n0_; have HB := n1_; clear n0_ n1_; (try clear hb); (try clear hb2); (try clear hk); (try clear hi); have hcz50_0 : w49.cell? ⟨gb276, 0, none⟩ = some (.int .i64 t274) := (bce BK276.out 0).trans rfl; have hcz50_1 : w49.cell? ⟨gb276, 1, none⟩ = some (.int .i64 t275) := (bce BK276.out 1).trans rfl; have hfz50_0 := bkf BK276.out 0; have hfz50_1 := bkf BK276.out 1) | ((with_reducible refine gcl (f := 50) rfl ?_); refine goesL_ (some 26) rfl rfl Try.func50 (by kernel_rfl) rfl #[.agg #[.int .i64 t274, .int .i64 t275]] rfl (by (try simp only [zmt, zmc, zmn]); first | done | rfl) ?_; (with_reducible refine (ff_infinity.calls t274 t275 t280 _ A30.out).mono ?_); rintro e w51 ⟨rfl, hb⟩; refine ⟨_, rfl, ?_⟩; have n0_ := As0.mk (bkb (g := gb276) (o := .cells #[.int .i64 t274, .int .i64 t275] 43 (0, 0)) (by (with_reducible repeat (first | refine bkN ?_ _ | refine bkd ?_ | refine bka ?_ _)); exact BK276.out) hb); have n1_ := As0.mk (bst (by repeat (first | (with_reducible first | exact HB.out | apply bal | apply pwB_ | apply bd1 | refine bse ?_ GE276.out) | exact HB.out)) hb); clear BK276; clear HB; have BK276 := n0_; have HB := n1_; clear n0_ n1_; (try clear hb); (try clear hb2); (try clear hk); (try clear hi)))
     go_ret
     exact ⟨by first | rfl | (simp [*] <;> rfl), by repeat (first | (with_reducible first | exact HB.out | apply bal | apply pwB_ | apply bd1 | refine bse ?_ GE276.out) | exact HB.out)⟩
def floats_Canonical.f (a0 : Int) : Option (Int) := (floats_of.f a0).bind fun bt281 => ((ff_none.f bt281.1 bt281.2).bind fun t283 => (if t283 = true then (some 0) else ((floats_of.f a0).bind fun bt284 => ((ff_nan.f bt284.1 bt284.2).bind fun t286 => (some t286)))))
set_option maxHeartbeats 8000000 in
set_option maxRecDepth 100000 in
theorem floats_Canonical.calls (a0 : Int) (r : Int) (w : World) (h : floats_Canonical.f a0 = some r) :
  Calls Try.prog 26 #[.int .i64 a0] w fun e w' => e = .returned (.int .u64 r) ∧ Below w.heap.size w w' := by
 have HB := As0.mk (Below.refl w.heap.size w)
 have H : ((floats_of.f a0).bind fun bt281 => ((ff_none.f bt281.1 bt281.2).bind fun t283 => (if t283 = true then (some 0) else ((floats_of.f a0).bind fun bt284 => ((ff_nan.f bt284.1 bt284.2).bind fun t286 => (some t286)))))) = some r := h
 clear h
 replace H := zob H
 obtain ⟨⟨t281, t282⟩, A20, H⟩ := H
 replace H : ((ff_none.f t281 t282).bind fun t283 => (if t283 = true then (some 0) else ((floats_of.f a0).bind fun bt284 => ((ff_nan.f bt284.1 bt284.2).bind fun t286 => (some t286))))) = some r := H
 have A2 := As0.mk A20
 clear A20
 replace H := zob H
 obtain ⟨t283, A30, H⟩ := H
 replace H : (if t283 = true then (some 0) else ((floats_of.f a0).bind fun bt284 => ((ff_nan.f bt284.1 bt284.2).bind fun t286 => (some t286)))) = some r := H
 have A3 := As0.mk A30
 clear A30
 by_cases c4 : t283 = true
 ·subst c4
  have H1 : (some 0) = some r := by rw [if_pos rfl] at H; exact H
  clear H
  have H := H1
  clear H1
  obtain rfl := Option.some.inj H
  go_enter Try.func26, Try.ntmps26
  go_wp2_with (first | ((with_reducible refine gcl (f := 31) rfl ?_); refine goesL_ (some 4) rfl rfl Try.func31 (by kernel_rfl) rfl #[.int .i64 a0] rfl (by (try simp only [zmt, zmc, zmn]); first | done | rfl) ?_; (with_reducible refine (floats_of.calls a0 t281 t282 _ A2.out).mono ?_); rintro e w5 ⟨rfl, hb⟩; refine ⟨_, rfl, ?_⟩; have n0_ := As0.mk (bst (by repeat (first | (with_reducible first | exact HB.out | apply bal | apply pwB_ | apply bd1) | exact HB.out)) hb); clear HB; have HB := n0_; clear n0_; (try clear hb); (try clear hb2); (try clear hk); (try clear hi)) | ((with_reducible refine gcl (f := 32) rfl ?_); refine goesL_ (some 5) rfl rfl Try.func32 (by kernel_rfl) rfl #[.agg #[.int .i64 t281, .int .i64 t282]] rfl (by (try simp only [zmt, zmc, zmn]); first | done | rfl) ?_; (with_reducible refine (ff_none.calls t281 t282 true _ A3.out).mono ?_); rintro e w6 ⟨rfl, hb⟩; refine ⟨_, rfl, ?_⟩; have n0_ := As0.mk (bst (by repeat (first | (with_reducible first | exact HB.out | apply bal | apply pwB_ | apply bd1) | exact HB.out)) hb); clear HB; have HB := n0_; clear n0_; (try clear hb); (try clear hb2); (try clear hk); (try clear hi)))
  go_ret
  exact ⟨by first | rfl | (simp [*] <;> rfl), by repeat (first | (with_reducible first | exact HB.out | apply bal | apply pwB_ | apply bd1) | exact HB.out)⟩
 ·replace c4 := Bool.eq_false_iff.mpr c4
  subst c4
  have H1 : ((floats_of.f a0).bind fun bt284 => ((ff_nan.f bt284.1 bt284.2).bind fun t286 => (some t286))) = some r := by rw [if_neg (show ¬ (false = true) by decide)] at H; exact H
  clear H
  have H := H1
  clear H1
  replace H := zob H
  obtain ⟨⟨t284, t285⟩, A70, H⟩ := H
  replace H : ((ff_nan.f t284 t285).bind fun t286 => (some t286)) = some r := H
  have A7 := As0.mk A70
  clear A70
  replace H := zob H
  obtain ⟨t286, A80, H⟩ := H
  replace H : (some t286) = some r := H
  have A8 := As0.mk A80
  clear A80
  obtain rfl := Option.some.inj H
  go_enter Try.func26, Try.ntmps26
  go_wp2_with (first | ((with_reducible refine gcl (f := 31) rfl ?_); refine goesL_ (some 4) rfl rfl Try.func31 (by kernel_rfl) rfl #[.int .i64 a0] rfl (by (try simp only [zmt, zmc, zmn]); first | done | rfl) ?_; (with_reducible refine (floats_of.calls a0 t281 t282 _ A2.out).mono ?_); rintro e w9 ⟨rfl, hb⟩; refine ⟨_, rfl, ?_⟩; have n0_ := As0.mk (bst (by repeat (first | (with_reducible first | exact HB.out | apply bal | apply pwB_ | apply bd1) | exact HB.out)) hb); clear HB; have HB := n0_; clear n0_; (try clear hb); (try clear hb2); (try clear hk); (try clear hi)) | ((with_reducible refine gcl (f := 32) rfl ?_); refine goesL_ (some 5) rfl rfl Try.func32 (by kernel_rfl) rfl #[.agg #[.int .i64 t281, .int .i64 t282]] rfl (by (try simp only [zmt, zmc, zmn]); first | done | rfl) ?_; (with_reducible refine (ff_none.calls t281 t282 false _ A3.out).mono ?_); rintro e w10 ⟨rfl, hb⟩; refine ⟨_, rfl, ?_⟩; have n0_ := As0.mk (bst (by repeat (first | (with_reducible first | exact HB.out | apply bal | apply pwB_ | apply bd1) | exact HB.out)) hb); clear HB; have HB := n0_; clear n0_; (try clear hb); (try clear hb2); (try clear hk); (try clear hi)) | ((with_reducible refine gcl (f := 31) rfl ?_); refine goesL_ (some 7) rfl rfl Try.func31 (by kernel_rfl) rfl #[.int .i64 a0] rfl (by (try simp only [zmt, zmc, zmn]); first | done | rfl) ?_; (with_reducible refine (floats_of.calls a0 t284 t285 _ A7.out).mono ?_); rintro e w11 ⟨rfl, hb⟩; refine ⟨_, rfl, ?_⟩; have n0_ := As0.mk (bst (by repeat (first | (with_reducible first | exact HB.out | apply bal | apply pwB_ | apply bd1) | exact HB.out)) hb); clear HB; have HB := n0_; clear n0_; (try clear hb); (try clear hb2); (try clear hk); (try clear hi)) | ((with_reducible refine gcl (f := 42) rfl ?_); refine goesL_ (some 8) rfl rfl Try.func42 (by kernel_rfl) rfl #[.agg #[.int .i64 t284, .int .i64 t285]] rfl (by (try simp only [zmt, zmc, zmn]); first | done | rfl) ?_; (with_reducible refine (ff_nan.calls t284 t285 t286 _ A8.out).mono ?_); rintro e w12 ⟨rfl, hb⟩; refine ⟨_, rfl, ?_⟩; have n0_ := As0.mk (bst (by repeat (first | (with_reducible first | exact HB.out | apply bal | apply pwB_ | apply bd1) | exact HB.out)) hb); clear HB; have HB := n0_; clear n0_; (try clear hb); (try clear hb2); (try clear hk); (try clear hi)))
  go_ret
  exact ⟨by first | rfl | (simp [*] <;> rfl), by repeat (first | (with_reducible first | exact HB.out | apply bal | apply pwB_ | apply bd1) | exact HB.out)⟩
/-- The document's examples come to true. -/
def bl_awake.f (_ : Nat) : Option Bool := some true
theorem bl_awake.mono : ∀ k, LeO (bl_awake.f k) (bl_awake.f (k + 1)) := fun _ => LeO.refl _
set_option maxHeartbeats 1000000 in
set_option maxRecDepth 100000 in
theorem bl_awake.calls (k : Nat) (r : Bool) (w : World) (h : bl_awake.f k = some r) :
  Calls Try.prog 16 #[] w fun e w' => e = .returned (.bool r) ∧ Below w.heap.size w w' := by
 obtain rfl := Option.some.inj h
 clear h
 go_enter Try.func16, Try.ntmps16
 go_wp2_with fail
 refine (floats_Bin.calls 100 32 1 1065353216 1073741824 1077936128 0 _ (by decide +kernel)).mono ?_
 rintro e w1 ⟨rfl, b1⟩
 have B1 := As0.mk b1
 clear b1
 go_wp2_with fail
 refine (floats_Bin.calls 100 64 4 4607182418800017408 4613937818241073152 4599676419421066581 0 _ (by decide +kernel)).mono ?_
 rintro e w2 ⟨rfl, b2⟩
 have B2 := As0.mk (B1.out.trans (b2.mono (Nat.le_trans (Nat.le_refl _) B1.out.size)))
 clear b2 B1
 go_wp2_with fail
 refine (floats_Un.calls 100 32 7 1075838976 1073741824 0 _ (by decide +kernel)).mono ?_
 rintro e w3 ⟨rfl, b3⟩
 have B3 := As0.mk (B2.out.trans (b3.mono B2.out.size))
 clear b3 B2
 go_wp2_with fail
 refine (floats_Rel.calls 100 64 1 0 9223372036854775808 true 0 _ (by decide +kernel)).mono ?_
 rintro e w4 ⟨rfl, b4⟩
 have B4 := As0.mk (B3.out.trans (b4.mono B3.out.size))
 clear b4 B3
 go_wp2_with fail
 refine (floats_Round.calls 100 32 true 3 (-1) false 3217031168 0 _ (by decide +kernel)).mono ?_
 rintro e w5 ⟨rfl, b5⟩
 have B5 := As0.mk (B4.out.trans (b5.mono B4.out.size))
 clear b5 B4
 go_wp2_with fail
 refine (floats_Kind.calls 32 2139095040 3 _ (by decide +kernel)).mono ?_
 rintro e w6 ⟨rfl, b6⟩
 have B6 := As0.mk (B5.out.trans (b6.mono B5.out.size))
 clear b6 B5
 go_wp2_with fail
 refine (floats_Canonical.calls 32 2143289344 _ (by decide +kernel)).mono ?_
 rintro e w7 ⟨rfl, b7⟩
 have B7 := As0.mk (B6.out.trans (b7.mono B6.out.size))
 clear b7 B6
 go_wp2_with fail
 go_ret
 exact ⟨rfl, B7.out⟩
end Go.Proofs.Ytjfmomogidgbpaa.PFl
namespace Go.Proofs.Ytjfmomogidgbpaa.PFl
open Go.RowKit Go.Proofs.YtjfmomogidgbpaaW.PrintWords Go.Proofs.YtjfmomogidgbpaaW.PrintLast Go.Proofs.YtjfmomogidgbpaaW.PrintMore
attribute [local go_sem] max2_int min2_int max_two min_two max_three min_three max_four min_four
set_option linter.unusedVariables false
set_option linter.unusedSimpArgs false
mutual
def br_near.j0 : Nat → Int → Int → Int → Int → Int → Int → Option (Int)
 | 0, _, _, _, _, _, _ => none
 | k + 1, x0, x1, x3, x4, x5, x13 => br_near.l0 k x0 x1 x3 x4 x5 x13
def br_near.l0 : Nat → Int → Int → Int → Int → Int → Int → Option (Int)
 | 0, _, _, _, _, _, _ => none
 | k + 1, x0, x1, x3, x4, x5, x13 => if 0 ≤ (IntKind.u64.wrap (x3)) then (if x0 ≥ (shl .u64 2 (IntKind.u64.wrap (x3))) then (br_near.j2 k x0 x1 x3 x4 x5 x13 true) else (br_near.j2 k x0 x1 x3 x4 x5 x13 (decide (x1 < x4)))) else (none)
def br_near.j2 : Nat → Int → Int → Int → Int → Int → Int → Bool → Option (Int)
 | 0, _, _, _, _, _, _, _ => none
 | k + 1, x0, x1, x3, x4, x5, x13, x31 => if x31 = true then (if (wrap64 (Int.tmod x0 2)) = 1 then (br_near.j3 k (IntKind.u64.wrap (Int.tdiv x0 2)) (wrap64 (x1 + 1)) x3 x4 x5 x13 (wrap64 (Int.tmod x0 2)) (x13 == 0)) else (br_near.j3 k (IntKind.u64.wrap (Int.tdiv x0 2)) (wrap64 (x1 + 1)) x3 x4 x5 x13 (wrap64 (Int.tmod x0 2)) false)) else (if x13 = 3 then (br_near.j4 k x0 x1 x3 x4 x5 true) else (if x13 = 2 then (br_near.j4 k x0 x1 x3 x4 x5 ((Int.tmod x0 2) == 1)) else (br_near.j4 k x0 x1 x3 x4 x5 false)))
def br_near.j3 : Nat → Int → Int → Int → Int → Int → Int → Int → Bool → Option (Int)
 | 0, _, _, _, _, _, _, _, _ => none
 | k + 1, x0, x1, x3, x4, x5, x13, x14, x44 => if x44 = true then (if x0 = 0 then (if x1 < (wrap64 (x4 - 1)) then (some 0) else (br_near.l0 k x0 x1 x3 x4 x5 2)) else (br_near.l0 k x0 x1 x3 x4 x5 2)) else (if x14 = 1 then (if x0 = 0 then (if x1 < (wrap64 (x4 - 1)) then (some 0) else (br_near.l0 k x0 x1 x3 x4 x5 3)) else (br_near.l0 k x0 x1 x3 x4 x5 3)) else (if x13 > 1 then (if x0 = 0 then (if x1 < (wrap64 (x4 - 1)) then (some 0) else (br_near.l0 k x0 x1 x3 x4 x5 1)) else (br_near.l0 k x0 x1 x3 x4 x5 1)) else (if x0 = 0 then (if x1 < (wrap64 (x4 - 1)) then (some 0) else (br_near.l0 k x0 x1 x3 x4 x5 x13)) else (br_near.l0 k x0 x1 x3 x4 x5 x13))))
def br_near.j4 : Nat → Int → Int → Int → Int → Int → Bool → Option (Int)
 | 0, _, _, _, _, _, _ => none
 | k + 1, x0, x1, x3, x4, x5, x67 => if x67 = true then (br_near.j5 k (IntKind.u64.wrap (x0 + 1)) x1 x3 x4 x5) else (br_near.j5 k x0 x1 x3 x4 x5)
def br_near.j5 : Nat → Int → Int → Int → Int → Int → Option (Int)
 | 0, _, _, _, _, _ => none
 | k + 1, x0, x1, x3, x4, x5 => br_near.l1 k x0 x1 x3 x4 x5
def br_near.j7 : Nat → Int → Int → Int → Int → Int → Option (Int)
 | 0, _, _, _, _, _ => none
 | k + 1, x0, x1, x3, x4, x5 => if 0 ≤ (IntKind.u64.wrap (x3)) then (if x0 ≥ (shl .u64 2 (IntKind.u64.wrap (x3))) then (br_near.j8 k (IntKind.u64.wrap (Int.tdiv x0 2)) (wrap64 (x1 + 1)) x3 x4 x5) else (br_near.j8 k x0 x1 x3 x4 x5)) else (none)
def br_near.j8 : Nat → Int → Int → Int → Int → Int → Option (Int)
 | 0, _, _, _, _, _ => none
 | k + 1, x0, x1, x3, x4, x5 => if 0 ≤ (IntKind.u64.wrap (x3)) then (if x0 < (shl .u64 1 (IntKind.u64.wrap (x3))) then (some x0) else (if (wrap64 (x1 - x4)) > 3000 then (some x5) else (if (IntKind.u64.wrap ((shl .u64 (IntKind.u64.wrap (wrap64 (x1 - x4))) (IntKind.u64.wrap (x3))) + x0)) > x5 then (some x5) else (some (IntKind.u64.wrap ((shl .u64 (IntKind.u64.wrap (wrap64 (x1 - x4))) (IntKind.u64.wrap (x3))) + x0)))))) else (none)
def br_near.l1 : Nat → Int → Int → Int → Int → Int → Option (Int)
 | 0, _, _, _, _, _ => none
 | k + 1, x0, x1, x3, x4, x5 => if 0 ≤ (IntKind.u64.wrap (x3)) then (if x0 < (shl .u64 1 (IntKind.u64.wrap (x3))) then (if x1 > x4 then (br_near.l1 k (IntKind.u64.wrap (x0 * 2)) (wrap64 (x1 - 1)) x3 x4 x5) else (br_near.j7 k x0 x1 x3 x4 x5)) else (br_near.j7 k x0 x1 x3 x4 x5)) else (none)
end
def br_near.f (k : Nat) (a0 : Int) (a1 : Int) (a2 : Bool) (a3 : Int) (a4 : Int) (a5 : Int) : Option (Int) := if a1 > 3000 then (some a5) else (if a1 < (-3000) then (some 0) else (if a2 = true then (br_near.j0 k a0 a1 a3 a4 a5 1) else (br_near.j0 k a0 a1 a3 a4 a5 0)))
theorem br_near.mono_l : ∀ k, (∀ y0 y1 y2 y3 y4 y5, LeO (br_near.j0 k y0 y1 y2 y3 y4 y5) (br_near.j0 (k + 1) y0 y1 y2 y3 y4 y5)) ∧ (∀ y0 y1 y2 y3 y4 y5, LeO (br_near.l0 k y0 y1 y2 y3 y4 y5) (br_near.l0 (k + 1) y0 y1 y2 y3 y4 y5)) ∧ (∀ y0 y1 y2 y3 y4 y5 y6, LeO (br_near.j2 k y0 y1 y2 y3 y4 y5 y6) (br_near.j2 (k + 1) y0 y1 y2 y3 y4 y5 y6)) ∧ (∀ y0 y1 y2 y3 y4 y5 y6 y7, LeO (br_near.j3 k y0 y1 y2 y3 y4 y5 y6 y7) (br_near.j3 (k + 1) y0 y1 y2 y3 y4 y5 y6 y7)) ∧ (∀ y0 y1 y2 y3 y4 y5, LeO (br_near.j4 k y0 y1 y2 y3 y4 y5) (br_near.j4 (k + 1) y0 y1 y2 y3 y4 y5)) ∧ (∀ y0 y1 y2 y3 y4, LeO (br_near.j5 k y0 y1 y2 y3 y4) (br_near.j5 (k + 1) y0 y1 y2 y3 y4)) ∧ (∀ y0 y1 y2 y3 y4, LeO (br_near.j7 k y0 y1 y2 y3 y4) (br_near.j7 (k + 1) y0 y1 y2 y3 y4)) ∧ (∀ y0 y1 y2 y3 y4, LeO (br_near.j8 k y0 y1 y2 y3 y4) (br_near.j8 (k + 1) y0 y1 y2 y3 y4)) ∧ (∀ y0 y1 y2 y3 y4, LeO (br_near.l1 k y0 y1 y2 y3 y4) (br_near.l1 (k + 1) y0 y1 y2 y3 y4)) := by
 intro k
 induction k with
 | zero => exact ⟨fun _ _ _ _ _ _ r h => by simp [br_near.j0] at h, fun _ _ _ _ _ _ r h => by simp [br_near.l0] at h, fun _ _ _ _ _ _ _ r h => by simp [br_near.j2] at h, fun _ _ _ _ _ _ _ _ r h => by simp [br_near.j3] at h, fun _ _ _ _ _ _ r h => by simp [br_near.j4] at h, fun _ _ _ _ _ r h => by simp [br_near.j5] at h, fun _ _ _ _ _ r h => by simp [br_near.j7] at h, fun _ _ _ _ _ r h => by simp [br_near.j8] at h, fun _ _ _ _ _ r h => by simp [br_near.l1] at h⟩
 | succ k ih =>
  obtain ⟨ih0, ih1, ih2, ih3, ih4, ih5, ih6, ih7, ih8⟩ := ih
  refine ⟨?_, ?_, ?_, ?_, ?_, ?_, ?_, ?_, ?_⟩
  ·intro y0 y1 y2 y3 y4 y5
   unfold br_near.j0
   repeat' first
   | (with_reducible exact ih0 _ _ _ _ _ _)
   | (with_reducible exact ih1 _ _ _ _ _ _)
   | (with_reducible exact ih2 _ _ _ _ _ _ _)
   | (with_reducible exact ih3 _ _ _ _ _ _ _ _)
   | (with_reducible exact ih4 _ _ _ _ _ _)
   | (with_reducible exact ih5 _ _ _ _ _)
   | (with_reducible exact ih6 _ _ _ _ _)
   | (with_reducible exact ih7 _ _ _ _ _)
   | (with_reducible exact ih8 _ _ _ _ _)
   | (with_reducible exact LeO.refl _)
   | (with_reducible exact LeO.none _)
   | (with_reducible refine LeO.ite ?_ ?_)
   | (with_reducible refine LeO.bind ?_ (fun _ => ?_))
   | exact ih0 _ _ _ _ _ _
   | exact ih1 _ _ _ _ _ _
   | exact ih2 _ _ _ _ _ _ _
   | exact ih3 _ _ _ _ _ _ _ _
   | exact ih4 _ _ _ _ _ _
   | exact ih5 _ _ _ _ _
   | exact ih6 _ _ _ _ _
   | exact ih7 _ _ _ _ _
   | exact ih8 _ _ _ _ _
   | exact LeO.none _
   | refine LeO.ite ?_ ?_
   | refine LeO.bind ?_ (fun _ => ?_)
  ·intro y0 y1 y2 y3 y4 y5
   unfold br_near.l0
   repeat' first
   | (with_reducible exact ih0 _ _ _ _ _ _)
   | (with_reducible exact ih1 _ _ _ _ _ _)
   | (with_reducible exact ih2 _ _ _ _ _ _ _)
   | (with_reducible exact ih3 _ _ _ _ _ _ _ _)
   | (with_reducible exact ih4 _ _ _ _ _ _)
   | (with_reducible exact ih5 _ _ _ _ _)
   | (with_reducible exact ih6 _ _ _ _ _)
   | (with_reducible exact ih7 _ _ _ _ _)
   | (with_reducible exact ih8 _ _ _ _ _)
   | (with_reducible exact LeO.refl _)
   | (with_reducible exact LeO.none _)
   | (with_reducible refine LeO.ite ?_ ?_)
   | (with_reducible refine LeO.bind ?_ (fun _ => ?_))
   | exact ih0 _ _ _ _ _ _
   | exact ih1 _ _ _ _ _ _
   | exact ih2 _ _ _ _ _ _ _
   | exact ih3 _ _ _ _ _ _ _ _
   | exact ih4 _ _ _ _ _ _
   | exact ih5 _ _ _ _ _
   | exact ih6 _ _ _ _ _
   | exact ih7 _ _ _ _ _
   | exact ih8 _ _ _ _ _
   | exact LeO.none _
   | refine LeO.ite ?_ ?_
   | refine LeO.bind ?_ (fun _ => ?_)
  ·intro y0 y1 y2 y3 y4 y5 y6
   unfold br_near.j2
   repeat' first
   | (with_reducible exact ih0 _ _ _ _ _ _)
   | (with_reducible exact ih1 _ _ _ _ _ _)
   | (with_reducible exact ih2 _ _ _ _ _ _ _)
   | (with_reducible exact ih3 _ _ _ _ _ _ _ _)
   | (with_reducible exact ih4 _ _ _ _ _ _)
   | (with_reducible exact ih5 _ _ _ _ _)
   | (with_reducible exact ih6 _ _ _ _ _)
   | (with_reducible exact ih7 _ _ _ _ _)
   | (with_reducible exact ih8 _ _ _ _ _)
   | (with_reducible exact LeO.refl _)
   | (with_reducible exact LeO.none _)
   | (with_reducible refine LeO.ite ?_ ?_)
   | (with_reducible refine LeO.bind ?_ (fun _ => ?_))
   | exact ih0 _ _ _ _ _ _
   | exact ih1 _ _ _ _ _ _
   | exact ih2 _ _ _ _ _ _ _
   | exact ih3 _ _ _ _ _ _ _ _
   | exact ih4 _ _ _ _ _ _
   | exact ih5 _ _ _ _ _
   | exact ih6 _ _ _ _ _
   | exact ih7 _ _ _ _ _
   | exact ih8 _ _ _ _ _
   | exact LeO.none _
   | refine LeO.ite ?_ ?_
   | refine LeO.bind ?_ (fun _ => ?_)
  ·intro y0 y1 y2 y3 y4 y5 y6 y7
   unfold br_near.j3
   repeat' first
   | (with_reducible exact ih0 _ _ _ _ _ _)
   | (with_reducible exact ih1 _ _ _ _ _ _)
   | (with_reducible exact ih2 _ _ _ _ _ _ _)
   | (with_reducible exact ih3 _ _ _ _ _ _ _ _)
   | (with_reducible exact ih4 _ _ _ _ _ _)
   | (with_reducible exact ih5 _ _ _ _ _)
   | (with_reducible exact ih6 _ _ _ _ _)
   | (with_reducible exact ih7 _ _ _ _ _)
   | (with_reducible exact ih8 _ _ _ _ _)
   | (with_reducible exact LeO.refl _)
   | (with_reducible exact LeO.none _)
   | (with_reducible refine LeO.ite ?_ ?_)
   | (with_reducible refine LeO.bind ?_ (fun _ => ?_))
   | exact ih0 _ _ _ _ _ _
   | exact ih1 _ _ _ _ _ _
   | exact ih2 _ _ _ _ _ _ _
   | exact ih3 _ _ _ _ _ _ _ _
   | exact ih4 _ _ _ _ _ _
   | exact ih5 _ _ _ _ _
   | exact ih6 _ _ _ _ _
   | exact ih7 _ _ _ _ _
   | exact ih8 _ _ _ _ _
   | exact LeO.none _
   | refine LeO.ite ?_ ?_
   | refine LeO.bind ?_ (fun _ => ?_)
  ·intro y0 y1 y2 y3 y4 y5
   unfold br_near.j4
   repeat' first
   | (with_reducible exact ih0 _ _ _ _ _ _)
   | (with_reducible exact ih1 _ _ _ _ _ _)
   | (with_reducible exact ih2 _ _ _ _ _ _ _)
   | (with_reducible exact ih3 _ _ _ _ _ _ _ _)
   | (with_reducible exact ih4 _ _ _ _ _ _)
   | (with_reducible exact ih5 _ _ _ _ _)
   | (with_reducible exact ih6 _ _ _ _ _)
   | (with_reducible exact ih7 _ _ _ _ _)
   | (with_reducible exact ih8 _ _ _ _ _)
   | (with_reducible exact LeO.refl _)
   | (with_reducible exact LeO.none _)
   | (with_reducible refine LeO.ite ?_ ?_)
   | (with_reducible refine LeO.bind ?_ (fun _ => ?_))
   | exact ih0 _ _ _ _ _ _
   | exact ih1 _ _ _ _ _ _
   | exact ih2 _ _ _ _ _ _ _
   | exact ih3 _ _ _ _ _ _ _ _
   | exact ih4 _ _ _ _ _ _
   | exact ih5 _ _ _ _ _
   | exact ih6 _ _ _ _ _
   | exact ih7 _ _ _ _ _
   | exact ih8 _ _ _ _ _
   | exact LeO.none _
   | refine LeO.ite ?_ ?_
   | refine LeO.bind ?_ (fun _ => ?_)
  ·intro y0 y1 y2 y3 y4
   unfold br_near.j5
   repeat' first
   | (with_reducible exact ih0 _ _ _ _ _ _)
   | (with_reducible exact ih1 _ _ _ _ _ _)
   | (with_reducible exact ih2 _ _ _ _ _ _ _)
   | (with_reducible exact ih3 _ _ _ _ _ _ _ _)
   | (with_reducible exact ih4 _ _ _ _ _ _)
   | (with_reducible exact ih5 _ _ _ _ _)
   | (with_reducible exact ih6 _ _ _ _ _)
   | (with_reducible exact ih7 _ _ _ _ _)
   | (with_reducible exact ih8 _ _ _ _ _)
   | (with_reducible exact LeO.refl _)
   | (with_reducible exact LeO.none _)
   | (with_reducible refine LeO.ite ?_ ?_)
   | (with_reducible refine LeO.bind ?_ (fun _ => ?_))
   | exact ih0 _ _ _ _ _ _
   | exact ih1 _ _ _ _ _ _
   | exact ih2 _ _ _ _ _ _ _
   | exact ih3 _ _ _ _ _ _ _ _
   | exact ih4 _ _ _ _ _ _
   | exact ih5 _ _ _ _ _
   | exact ih6 _ _ _ _ _
   | exact ih7 _ _ _ _ _
   | exact ih8 _ _ _ _ _
   | exact LeO.none _
   | refine LeO.ite ?_ ?_
   | refine LeO.bind ?_ (fun _ => ?_)
  ·intro y0 y1 y2 y3 y4
   unfold br_near.j7
   repeat' first
   | (with_reducible exact ih0 _ _ _ _ _ _)
   | (with_reducible exact ih1 _ _ _ _ _ _)
   | (with_reducible exact ih2 _ _ _ _ _ _ _)
   | (with_reducible exact ih3 _ _ _ _ _ _ _ _)
   | (with_reducible exact ih4 _ _ _ _ _ _)
   | (with_reducible exact ih5 _ _ _ _ _)
   | (with_reducible exact ih6 _ _ _ _ _)
   | (with_reducible exact ih7 _ _ _ _ _)
   | (with_reducible exact ih8 _ _ _ _ _)
   | (with_reducible exact LeO.refl _)
   | (with_reducible exact LeO.none _)
   | (with_reducible refine LeO.ite ?_ ?_)
   | (with_reducible refine LeO.bind ?_ (fun _ => ?_))
   | exact ih0 _ _ _ _ _ _
   | exact ih1 _ _ _ _ _ _
   | exact ih2 _ _ _ _ _ _ _
   | exact ih3 _ _ _ _ _ _ _ _
   | exact ih4 _ _ _ _ _ _
   | exact ih5 _ _ _ _ _
   | exact ih6 _ _ _ _ _
   | exact ih7 _ _ _ _ _
   | exact ih8 _ _ _ _ _
   | exact LeO.none _
   | refine LeO.ite ?_ ?_
   | refine LeO.bind ?_ (fun _ => ?_)
  ·intro y0 y1 y2 y3 y4
   unfold br_near.j8
   repeat' first
   | (with_reducible exact ih0 _ _ _ _ _ _)
   | (with_reducible exact ih1 _ _ _ _ _ _)
   | (with_reducible exact ih2 _ _ _ _ _ _ _)
   | (with_reducible exact ih3 _ _ _ _ _ _ _ _)
   | (with_reducible exact ih4 _ _ _ _ _ _)
   | (with_reducible exact ih5 _ _ _ _ _)
   | (with_reducible exact ih6 _ _ _ _ _)
   | (with_reducible exact ih7 _ _ _ _ _)
   | (with_reducible exact ih8 _ _ _ _ _)
   | (with_reducible exact LeO.refl _)
   | (with_reducible exact LeO.none _)
   | (with_reducible refine LeO.ite ?_ ?_)
   | (with_reducible refine LeO.bind ?_ (fun _ => ?_))
   | exact ih0 _ _ _ _ _ _
   | exact ih1 _ _ _ _ _ _
   | exact ih2 _ _ _ _ _ _ _
   | exact ih3 _ _ _ _ _ _ _ _
   | exact ih4 _ _ _ _ _ _
   | exact ih5 _ _ _ _ _
   | exact ih6 _ _ _ _ _
   | exact ih7 _ _ _ _ _
   | exact ih8 _ _ _ _ _
   | exact LeO.none _
   | refine LeO.ite ?_ ?_
   | refine LeO.bind ?_ (fun _ => ?_)
  ·intro y0 y1 y2 y3 y4
   unfold br_near.l1
   repeat' first
   | (with_reducible exact ih0 _ _ _ _ _ _)
   | (with_reducible exact ih1 _ _ _ _ _ _)
   | (with_reducible exact ih2 _ _ _ _ _ _ _)
   | (with_reducible exact ih3 _ _ _ _ _ _ _ _)
   | (with_reducible exact ih4 _ _ _ _ _ _)
   | (with_reducible exact ih5 _ _ _ _ _)
   | (with_reducible exact ih6 _ _ _ _ _)
   | (with_reducible exact ih7 _ _ _ _ _)
   | (with_reducible exact ih8 _ _ _ _ _)
   | (with_reducible exact LeO.refl _)
   | (with_reducible exact LeO.none _)
   | (with_reducible refine LeO.ite ?_ ?_)
   | (with_reducible refine LeO.bind ?_ (fun _ => ?_))
   | exact ih0 _ _ _ _ _ _
   | exact ih1 _ _ _ _ _ _
   | exact ih2 _ _ _ _ _ _ _
   | exact ih3 _ _ _ _ _ _ _ _
   | exact ih4 _ _ _ _ _ _
   | exact ih5 _ _ _ _ _
   | exact ih6 _ _ _ _ _
   | exact ih7 _ _ _ _ _
   | exact ih8 _ _ _ _ _
   | exact LeO.none _
   | refine LeO.ite ?_ ?_
   | refine LeO.bind ?_ (fun _ => ?_)
theorem br_near.mono : ∀ a0 a1 a2 a3 a4 a5 k, LeO (br_near.f k a0 a1 a2 a3 a4 a5) (br_near.f (k + 1) a0 a1 a2 a3 a4 a5) := by
 intro a0 a1 a2 a3 a4 a5 k
 obtain ⟨ih0, ih1, ih2, ih3, ih4, ih5, ih6, ih7, ih8⟩ := br_near.mono_l k
 unfold br_near.f
 repeat' first
   | (with_reducible exact ih0 _ _ _ _ _ _)
   | (with_reducible exact ih1 _ _ _ _ _ _)
   | (with_reducible exact ih2 _ _ _ _ _ _ _)
   | (with_reducible exact ih3 _ _ _ _ _ _ _ _)
   | (with_reducible exact ih4 _ _ _ _ _ _)
   | (with_reducible exact ih5 _ _ _ _ _)
   | (with_reducible exact ih6 _ _ _ _ _)
   | (with_reducible exact ih7 _ _ _ _ _)
   | (with_reducible exact ih8 _ _ _ _ _)
   | (with_reducible exact LeO.refl _)
   | (with_reducible exact LeO.none _)
   | (with_reducible refine LeO.ite ?_ ?_)
   | (with_reducible refine LeO.bind ?_ (fun _ => ?_))
   | exact ih0 _ _ _ _ _ _
   | exact ih1 _ _ _ _ _ _
   | exact ih2 _ _ _ _ _ _ _
   | exact ih3 _ _ _ _ _ _ _ _
   | exact ih4 _ _ _ _ _ _
   | exact ih5 _ _ _ _ _
   | exact ih6 _ _ _ _ _
   | exact ih7 _ _ _ _ _
   | exact ih8 _ _ _ _ _
   | exact LeO.none _
   | refine LeO.ite ?_ ?_
   | refine LeO.bind ?_ (fun _ => ?_)
end Go.Proofs.Ytjfmomogidgbpaa.PFl
namespace Go.Proofs.Ytjfmomogidgbpaa.PFl
open Go.RowKit Go.Proofs.YtjfmomogidgbpaaW.PrintWords Go.Proofs.YtjfmomogidgbpaaW.PrintLast Go.Proofs.YtjfmomogidgbpaaW.PrintMore
attribute [local go_sem] max2_int min2_int max_two min_two max_three min_three max_four min_four
set_option linter.unusedVariables false
set_option linter.unusedSimpArgs false
def br_sign.f (a0 : Int) : Option (Int) := if a0 = 32 then (some 2147483648) else (some 9223372036854775808)
mutual
def br_Round.j0 : Nat → Int → Bool → Int → Int → Bool → Bool → Option (Int × Int)
 | 0, _, _, _, _, _, _ => none
 | k + 1, x0, x1, x2, x3, x4, x28 => if x28 = true then (some (0, 1)) else (if x0 = 64 then (br_Round.j1 k x0 x1 x2 x3 x4 52 (-1074) 9218868437227405312) else (br_Round.j1 k x0 x1 x2 x3 x4 23 (-149) 2139095040))
def br_Round.j1 : Nat → Int → Bool → Int → Int → Bool → Int → Int → Int → Option (Int × Int)
 | 0, _, _, _, _, _, _, _, _ => none
 | k + 1, x0, x1, x2, x3, x4, x12, x13, x14 => if x2 > 0 then ((br_near.f k x2 x3 x4 x12 x13 x14).bind fun t299 => (if x1 = true then ((br_sign.f x0).bind fun t300 => (some (IntKind.u64.wrap (t299 + t300), 0))) else (some (t299, 0)))) else (if x1 = true then ((br_sign.f x0).bind fun t301 => (some (IntKind.u64.wrap (0 + t301), 0))) else (some (0, 0)))
end
def br_Round.f (k : Nat) (a0 : Int) (a1 : Bool) (a2 : Int) (a3 : Int) (a4 : Bool) : Option (Int × Int) := if a0 = 32 then (if a4 = true then (br_Round.j0 k a0 a1 a2 a3 a4 (decide (a2 < 288230376151711744))) else (br_Round.j0 k a0 a1 a2 a3 a4 false)) else (if a0 = 64 then (if a4 = true then (br_Round.j0 k a0 a1 a2 a3 a4 (decide (a2 < 288230376151711744))) else (br_Round.j0 k a0 a1 a2 a3 a4 false)) else (br_Round.j0 k a0 a1 a2 a3 a4 true))
theorem br_Round.mono_l : ∀ k, (∀ y0 y1 y2 y3 y4 y5, LeO (br_Round.j0 k y0 y1 y2 y3 y4 y5) (br_Round.j0 (k + 1) y0 y1 y2 y3 y4 y5)) ∧ (∀ y0 y1 y2 y3 y4 y5 y6 y7, LeO (br_Round.j1 k y0 y1 y2 y3 y4 y5 y6 y7) (br_Round.j1 (k + 1) y0 y1 y2 y3 y4 y5 y6 y7)) := by
 intro k
 induction k with
 | zero => exact ⟨fun _ _ _ _ _ _ r h => by simp [br_Round.j0] at h, fun _ _ _ _ _ _ _ _ r h => by simp [br_Round.j1] at h⟩
 | succ k ih =>
  obtain ⟨ih0, ih1⟩ := ih
  refine ⟨?_, ?_⟩
  ·intro y0 y1 y2 y3 y4 y5
   unfold br_Round.j0
   repeat' first
   | (with_reducible exact ih0 _ _ _ _ _ _)
   | (with_reducible exact ih1 _ _ _ _ _ _ _ _)
   | (with_reducible exact br_near.mono _ _ _ _ _ _ _)
   | (with_reducible exact LeO.refl _)
   | (with_reducible exact LeO.none _)
   | (with_reducible refine LeO.ite ?_ ?_)
   | (with_reducible refine LeO.bind ?_ (fun _ => ?_))
   | exact ih0 _ _ _ _ _ _
   | exact ih1 _ _ _ _ _ _ _ _
   | exact br_near.mono _ _ _ _ _ _ _
   | exact LeO.none _
   | refine LeO.ite ?_ ?_
   | refine LeO.bind ?_ (fun _ => ?_)
  ·intro y0 y1 y2 y3 y4 y5 y6 y7
   unfold br_Round.j1
   repeat' first
   | (with_reducible exact ih0 _ _ _ _ _ _)
   | (with_reducible exact ih1 _ _ _ _ _ _ _ _)
   | (with_reducible exact br_near.mono _ _ _ _ _ _ _)
   | (with_reducible exact LeO.refl _)
   | (with_reducible exact LeO.none _)
   | (with_reducible refine LeO.ite ?_ ?_)
   | (with_reducible refine LeO.bind ?_ (fun _ => ?_))
   | exact ih0 _ _ _ _ _ _
   | exact ih1 _ _ _ _ _ _ _ _
   | exact br_near.mono _ _ _ _ _ _ _
   | exact LeO.none _
   | refine LeO.ite ?_ ?_
   | refine LeO.bind ?_ (fun _ => ?_)
theorem br_Round.mono : ∀ a0 a1 a2 a3 a4 k, LeO (br_Round.f k a0 a1 a2 a3 a4) (br_Round.f (k + 1) a0 a1 a2 a3 a4) := by
 intro a0 a1 a2 a3 a4 k
 obtain ⟨ih0, ih1⟩ := br_Round.mono_l k
 unfold br_Round.f
 repeat' first
   | (with_reducible exact ih0 _ _ _ _ _ _)
   | (with_reducible exact ih1 _ _ _ _ _ _ _ _)
   | (with_reducible exact br_near.mono _ _ _ _ _ _ _)
   | (with_reducible exact LeO.refl _)
   | (with_reducible exact LeO.none _)
   | (with_reducible refine LeO.ite ?_ ?_)
   | (with_reducible refine LeO.bind ?_ (fun _ => ?_))
   | exact ih0 _ _ _ _ _ _
   | exact ih1 _ _ _ _ _ _ _ _
   | exact br_near.mono _ _ _ _ _ _ _
   | exact LeO.none _
   | refine LeO.ite ?_ ?_
   | refine LeO.bind ?_ (fun _ => ?_)
def bl_FloatsRounds.f (k : Nat) (a0 : Int) (a1 : Bool) (a2 : Int) (a3 : Int) (a4 : Bool) : Option (Bool) := (bl_awake.f k).bind fun t302 => (if t302 = true then ((floats_Round.f k a0 a1 a2 a3 a4).bind fun bt303 => ((br_Round.f k a0 a1 a2 a3 a4).bind fun bt305 => (if bt303.1 = bt305.1 then (some (bt303.2 == bt305.2)) else (some false)))) else (some false))
theorem bl_FloatsRounds.mono : ∀ a0 a1 a2 a3 a4 k, LeO (bl_FloatsRounds.f k a0 a1 a2 a3 a4) (bl_FloatsRounds.f (k + 1) a0 a1 a2 a3 a4) := by
 intro a0 a1 a2 a3 a4 k
 unfold bl_FloatsRounds.f
 repeat' first
   | (with_reducible exact bl_awake.mono _)
   | (with_reducible exact br_Round.mono _ _ _ _ _ _)
   | (with_reducible exact floats_Round.mono _ _ _ _ _ _)
   | (with_reducible exact LeO.refl _)
   | (with_reducible exact LeO.none _)
   | (with_reducible refine LeO.ite ?_ ?_)
   | (with_reducible refine LeO.bind ?_ (fun _ => ?_))
   | exact bl_awake.mono _
   | exact br_Round.mono _ _ _ _ _ _
   | exact floats_Round.mono _ _ _ _ _ _
   | exact LeO.none _
   | refine LeO.ite ?_ ?_
   | refine LeO.bind ?_ (fun _ => ?_)
/-- THE ONE PURE STATEMENT of bl_FloatsRounds: yours. -/
def bl_FloatsRounds.Pure : Prop := ∀ (a0 : Int) (a1 : Bool) (a2 : Int) (a3 : Int) (a4 : Bool), (Lit.int .i64 a0).wf = true → (Lit.int .u64 a2).wf = true → (Lit.int .i64 a3).wf = true → ∃ k, bl_FloatsRounds.f k a0 a1 a2 a3 a4 = some true
def bl_FloatsTurns.j0 : Nat → Int → Int → Int → Int → Option (Bool)
 | 0, _, _, _, _ => none
 | k + 1, x0, x1, x2, x3 => (floats_Bin.f k x0 1 x1 x2).bind fun bt308 => ((floats_Bin.f k x0 1 x2 x1).bind fun bt310 => ((floats_Bin.f k x0 3 x1 x2).bind fun bt312 => ((floats_Bin.f k x0 3 x2 x1).bind fun bt314 => ((floats_Un.f k x0 2 x2).bind fun bt316 => ((floats_Un.f k x0 2 bt316.1).bind fun bt318 => ((floats_Bin.f k x0 2 x1 bt316.1).bind fun bt320 => ((floats_Round.f k x0 false (IntKind.u64.wrap (Int.tmod x3 4096)) 0 false).bind fun bt322 => ((floats_Bin.f k x0 3 bt322.1 bt322.1).bind fun bt324 => ((floats_Un.f k x0 3 bt324.1).bind fun bt326 => ((floats_Un.f k x0 5 x1).bind fun bt328 => ((floats_Un.f k x0 4 x1).bind fun bt330 => ((floats_Rel.f k x0 5 bt328.1 x1).bind fun bt332 => ((floats_Rel.f k x0 5 x1 bt330.1).bind fun bt334 => ((floats_Kind.f x0 x1).bind fun t336 => ((floats_Bin.f k x0 7 x2 x2).bind fun bt337 => (if bt308.1 = bt310.1 then (if bt312.1 = bt314.1 then (if bt320.1 = bt308.1 then (if bt318.1 = bt337.1 then (if bt326.1 = bt322.1 then (if (bt332.1 == (!(t336 == 4))) = true then (some (bt334.1 == (!(t336 == 4)))) else (some false)) else (some false)) else (some false)) else (some false)) else (some false)) else (some false)))))))))))))))))
def bl_FloatsTurns.f (k : Nat) (a0 : Int) (a1 : Int) (a2 : Int) (a3 : Int) : Option (Bool) := (bl_awake.f k).bind fun t307 => (if t307 = true then (if a0 = 32 then (bl_FloatsTurns.j0 k a0 a1 a2 a3) else (bl_FloatsTurns.j0 k 64 a1 a2 a3)) else (some false))
theorem bl_FloatsTurns.mono_l : ∀ k, (∀ y0 y1 y2 y3, LeO (bl_FloatsTurns.j0 k y0 y1 y2 y3) (bl_FloatsTurns.j0 (k + 1) y0 y1 y2 y3)) := by
 intro k
 induction k with
 | zero => exact fun _ _ _ _ r h => by simp [bl_FloatsTurns.j0] at h
 | succ k ih =>
  have ih0 := ih
  ·intro y0 y1 y2 y3
   unfold bl_FloatsTurns.j0
   repeat' first
   | (with_reducible exact ih0 _ _ _ _)
   | (with_reducible exact bl_awake.mono _)
   | (with_reducible exact floats_Bin.mono _ _ _ _ _)
   | (with_reducible exact floats_Rel.mono _ _ _ _ _)
   | (with_reducible exact floats_Round.mono _ _ _ _ _ _)
   | (with_reducible exact floats_Un.mono _ _ _ _)
   | (with_reducible exact LeO.refl _)
   | (with_reducible exact LeO.none _)
   | (with_reducible refine LeO.ite ?_ ?_)
   | (with_reducible refine LeO.bind ?_ (fun _ => ?_))
   | exact ih0 _ _ _ _
   | exact bl_awake.mono _
   | exact floats_Bin.mono _ _ _ _ _
   | exact floats_Rel.mono _ _ _ _ _
   | exact floats_Round.mono _ _ _ _ _ _
   | exact floats_Un.mono _ _ _ _
   | exact LeO.none _
   | refine LeO.ite ?_ ?_
   | refine LeO.bind ?_ (fun _ => ?_)
theorem bl_FloatsTurns.mono : ∀ a0 a1 a2 a3 k, LeO (bl_FloatsTurns.f k a0 a1 a2 a3) (bl_FloatsTurns.f (k + 1) a0 a1 a2 a3) := by
 intro a0 a1 a2 a3 k
 have ih0 := bl_FloatsTurns.mono_l k
 unfold bl_FloatsTurns.f
 repeat' first
   | (with_reducible exact ih0 _ _ _ _)
   | (with_reducible exact bl_awake.mono _)
   | (with_reducible exact floats_Bin.mono _ _ _ _ _)
   | (with_reducible exact floats_Rel.mono _ _ _ _ _)
   | (with_reducible exact floats_Round.mono _ _ _ _ _ _)
   | (with_reducible exact floats_Un.mono _ _ _ _)
   | (with_reducible exact LeO.refl _)
   | (with_reducible exact LeO.none _)
   | (with_reducible refine LeO.ite ?_ ?_)
   | (with_reducible refine LeO.bind ?_ (fun _ => ?_))
   | exact ih0 _ _ _ _
   | exact bl_awake.mono _
   | exact floats_Bin.mono _ _ _ _ _
   | exact floats_Rel.mono _ _ _ _ _
   | exact floats_Round.mono _ _ _ _ _ _
   | exact floats_Un.mono _ _ _ _
   | exact LeO.none _
   | refine LeO.ite ?_ ?_
   | refine LeO.bind ?_ (fun _ => ?_)
/-- THE ONE PURE STATEMENT of bl_FloatsTurns: yours. -/
def bl_FloatsTurns.Pure : Prop := ∀ (a0 : Int) (a1 : Int) (a2 : Int) (a3 : Int), (Lit.int .i64 a0).wf = true → (Lit.int .u64 a1).wf = true → (Lit.int .u64 a2).wf = true → (Lit.int .u32 a3).wf = true → ∃ k, bl_FloatsTurns.f k a0 a1 a2 a3 = some true
-- NOT PRINTED: function 71 (math_Float32frombits)
-- NOT PRINTED: function 55 (br_F32)
-- NOT PRINTED: function 80 (math_Float64frombits)
-- NOT PRINTED: function 69 (br_F64)
-- NOT PRINTED: function 51 (br_value)
-- NOT PRINTED: function 23 (br_Rel)
-- NOT PRINTED: function 5 (bl_FloatsStand)
def br_Canonical.f (a0 : Int) : Option (Int) := if a0 = 32 then (some 2143289344) else (if a0 = 64 then (some 9221120237041090560) else (some 0))
def br_cut.f (a0 : Int) (a1 : Int) : Option (Int) := if a0 = 32 then (some (Int.tmod a1 4294967296)) else (some a1)
-- NOT PRINTED: function 70 (math_Float64bits)
-- NOT PRINTED: function 53 (br_B64)
-- NOT PRINTED: function 54 (br_worked)
-- NOT PRINTED: function 72 (math_Float32bits)
-- NOT PRINTED: function 56 (br_B32)
-- NOT PRINTED: function 24 (br_Bin)
-- NOT PRINTED: function 25 (br_Kind)
-- NOT PRINTED: function 6 (bl_FloatsBin)
-- NOT PRINTED: function 7 (bl_FloatsSums)
-- NOT PRINTED: function 8 (bl_FloatsProducts)
-- NOT PRINTED: function 9 (bl_FloatsQuotients)
-- NOT PRINTED: function 10 (bl_FloatsEnds)
end Go.Proofs.Ytjfmomogidgbpaa.PFl
namespace Go.Proofs.Ytjfmomogidgbpaa.PFl
open Go.RowKit Go.Proofs.YtjfmomogidgbpaaW.PrintWords Go.Proofs.YtjfmomogidgbpaaW.PrintLast Go.Proofs.YtjfmomogidgbpaaW.PrintMore
attribute [local go_sem] max2_int min2_int max_two min_two max_three min_three max_four min_four
set_option linter.unusedVariables false
set_option linter.unusedSimpArgs false
def floats_Parts.j0 : Nat → Int → Int → Bool → Option (Bool × Int × Int × Int)
 | 0, _, _, _ => none
 | k + 1, x0, x1, x19 => if x19 = true then (some (false, 0, 0, 1)) else ((floats_of.f x0).bind fun bt360 => ((ff_parts.f bt360.1 bt360.2 x1).bind fun bt362 => ((floats_of.f x0).bind fun bt364 => ((ff_neg.f bt364.1 bt364.2 x1).bind fun t366 => (some (t366, bt362.1, bt362.2, 0))))))
def floats_Parts.f (k : Nat) (a0 : Int) (a1 : Int) : Option (Bool × Int × Int × Int) := (floats_Kind.f a0 a1).bind fun t359 => (if t359 = 1 then (floats_Parts.j0 k a0 a1 false) else (floats_Parts.j0 k a0 a1 (t359 != 2)))
theorem floats_Parts.mono_l : ∀ k, (∀ y0 y1 y2, LeO (floats_Parts.j0 k y0 y1 y2) (floats_Parts.j0 (k + 1) y0 y1 y2)) := by
 intro k
 induction k with
 | zero => exact fun _ _ _ r h => by simp [floats_Parts.j0] at h
 | succ k ih =>
  have ih0 := ih
  ·intro y0 y1 y2
   unfold floats_Parts.j0
   repeat' first
   | (with_reducible exact ih0 _ _ _)
   | (with_reducible exact LeO.refl _)
   | (with_reducible exact LeO.none _)
   | (with_reducible refine LeO.ite ?_ ?_)
   | (with_reducible refine LeO.bind ?_ (fun _ => ?_))
   | exact ih0 _ _ _
   | exact LeO.none _
   | refine LeO.ite ?_ ?_
   | refine LeO.bind ?_ (fun _ => ?_)
theorem floats_Parts.mono : ∀ a0 a1 k, LeO (floats_Parts.f k a0 a1) (floats_Parts.f (k + 1) a0 a1) := by
 intro a0 a1 k
 have ih0 := floats_Parts.mono_l k
 unfold floats_Parts.f
 repeat' first
   | (with_reducible exact ih0 _ _ _)
   | (with_reducible exact LeO.refl _)
   | (with_reducible exact LeO.none _)
   | (with_reducible refine LeO.ite ?_ ?_)
   | (with_reducible refine LeO.bind ?_ (fun _ => ?_))
   | exact ih0 _ _ _
   | exact LeO.none _
   | refine LeO.ite ?_ ?_
   | refine LeO.bind ?_ (fun _ => ?_)
-- NOT PRINTED: function 29 (br_Parts)
-- NOT PRINTED: function 11 (bl_FloatsParts)
-- NOT PRINTED: function 73 (math_sqrt)
-- NOT PRINTED: function 58 (math_Sqrt)
-- NOT PRINTED: function 74 (math_archCeil)
-- NOT PRINTED: function 76 (math_archFloor)
-- NOT PRINTED: function 81 (math_IsNaN)
-- NOT PRINTED: function 84 (math_Abs)
-- NOT PRINTED: function 82 (math_IsInf)
-- NOT PRINTED: function 78 (math_archTrunc)
-- NOT PRINTED: function 85 (math_Copysign)
-- NOT PRINTED: function 79 (math_trunc)
-- NOT PRINTED: function 61 (math_Trunc)
-- NOT PRINTED: function 83 (math_Modf)
-- NOT PRINTED: function 77 (math_floor)
-- NOT PRINTED: function 60 (math_Floor)
-- NOT PRINTED: function 75 (math_ceil)
-- NOT PRINTED: function 59 (math_Ceil)
-- NOT PRINTED: function 62 (math_RoundToEven)
-- NOT PRINTED: function 30 (br_Un)
-- NOT PRINTED: function 12 (bl_FloatsAll)
-- NOT PRINTED: function 13 (bl_FloatsOne)
-- NOT PRINTED: function 14 (bl_FloatsRoots)
-- NOT PRINTED: function 15 (bl_FloatsWhole)
end Go.Proofs.Ytjfmomogidgbpaa.PFl
namespace Go.Proofs.Ytjfmomogidgbpaa.Ref
set_option linter.unusedVariables false
set_option linter.unusedSimpArgs false
open Go.RowKit Go.Proofs.YtjfmomogidgbpaaW.PrintWords Go.Proofs.Ytjfmomogidgbpaa.Fl
theorem bin_all (n op a b : Int) (w : World) (a0 : 0 ≤ a) (a1 : a < 18446744073709551616) (b0 : 0 ≤ b) (b1 : b < 18446744073709551616) :
    Calls Try.prog 24 #[.int .i64 n, .int .i64 op, .int .u64 a, .int .u64 b] w (Pq (binF n op a b) w) := by
  by_cases hn : n = 32 ∨ n = 64
  · have c := sizeB hn
    by_cases ho : op < 1 ∨ 9 < op
    · have e : binF n op a b = (0, 1) := by unfold binF; rw [if_pos (by omega)]
      rw [e]; exact bin_op n op a b w c ho
    · have hr : ¬ ((n ≠ 32 ∧ n ≠ 64) ∨ op < 1 ∨ 9 < op) := by omega
      by_cases o7 : op = 7
      · subst o7
        have e : binF n 7 a b = ((wOf n a : Int) % sgnI n + (wOf n b : Int) - (wOf n b : Int) % sgnI n, 0) := by unfold binF; rw [if_neg hr]; rfl
        rw [e]; exact bin7 n a b w c a0 a1 b0 b1
      by_cases o8 : op = 8
      · subst o8
        have e : binF n 8 a b = (if ordOf n b a = some .lt then (wOf n b : Int) else (wOf n a : Int), 0) := by unfold binF; rw [if_neg hr]; rfl
        rw [e]
        by_cases h : ordOf n b a = some .lt
        · rw [if_pos h]; exact bin8y n a b w c a0 a1 b0 b1 h
        · rw [if_neg h]; exact bin8n n a b w c a0 a1 b0 b1 h
      by_cases o9 : op = 9
      · subst o9
        have e : binF n 9 a b = (if ordOf n a b = some .lt then (wOf n b : Int) else (wOf n a : Int), 0) := by unfold binF; rw [if_neg hr]; rfl
        rw [e]
        by_cases h : ordOf n a b = some .lt
        · rw [if_pos h]; exact bin9y n a b w c a0 a1 b0 b1 h
        · rw [if_neg h]; exact bin9n n a b w c a0 a1 b0 b1 h
      by_cases hnan : (nanW (fmtOf n) (wOf n a) || nanW (fmtOf n) (wOf n b)) = true
      · have e : binF n op a b = (canon n, 0) := by
          unfold binF; rw [if_neg hr]; simp only; rw [if_neg o7, if_neg o8, if_neg o9, if_pos hnan]
        rw [e]; exact bin_nan n op a b w c a0 a1 b0 b1 (by omega) (by omega) hn hnan
      · have hAB : ¬ (fmtOf n).infRung < rungOf (fmtOf n) (wOf n a) ∧ ¬ (fmtOf n).infRung < rungOf (fmtOf n) (wOf n b) := by
          have h2 := Bool.eq_false_iff.2 hnan
          rw [Bool.or_eq_false_iff] at h2
          exact ⟨of_decide_eq_false h2.1, of_decide_eq_false h2.2⟩
        obtain ⟨hA, hB⟩ := hAB
        by_cases o56 : op = 5 ∨ op = 6
        · have e : binF n op a b = (if rungOf (fmtOf n) (wOf n a) = 0 ∧ rungOf (fmtOf n) (wOf n b) = 0 then (if (op = 5 ↔ sgnI n ≤ (wOf n a : Int)) then (wOf n a : Int) else (wOf n b : Int))
              else if (ordOf n a b = some .lt ↔ op = 5) then (wOf n a : Int) else (wOf n b : Int), 0) := by
            unfold binF; rw [if_neg hr]; simp only; rw [if_neg o7, if_neg o8, if_neg o9, if_neg hnan, if_pos o56]
          rw [e]
          by_cases z : rungOf (fmtOf n) (wOf n a) = 0 ∧ rungOf (fmtOf n) (wOf n b) = 0
          · rw [if_pos z]
            by_cases s : sgnI n ≤ (wOf n a : Int)
            · rcases o56 with rfl | rfl
              · rw [if_pos (by simp [s])]; exact bin5zg n a b w c a0 a1 b0 b1 hA hB z.1 z.2 s
              · rw [if_neg (by simp [s])]; exact bin6zg n a b w c a0 a1 b0 b1 hA hB z.1 z.2 s
            · rcases o56 with rfl | rfl
              · rw [if_neg (by simp [s])]; exact bin5zl n a b w c a0 a1 b0 b1 hA hB z.1 z.2 (by omega)
              · rw [if_pos (by simp [s])]; exact bin6zl n a b w c a0 a1 b0 b1 hA hB z.1 z.2 (by omega)
          · rw [if_neg z]
            by_cases l : ordOf n a b = some .lt
            · rcases o56 with rfl | rfl
              · rw [if_pos (by simp [l])]; exact bin5l n a b w c a0 a1 b0 b1 hA hB z l
              · rw [if_neg (by simp [l])]; exact bin6l n a b w c a0 a1 b0 b1 hA hB z l
            · rcases o56 with rfl | rfl
              · rw [if_neg (by simp [l])]; exact bin5g n a b w c a0 a1 b0 b1 hA hB z l
              · rw [if_pos (by simp [l])]; exact bin6g n a b w c a0 a1 b0 b1 hA hB z l
        · have e : binF n op a b = (if op = 1 then (resOf n ((fmtOf n).add (wOf n a) (wOf n b)), 0) else if op = 2 then (resOf n ((fmtOf n).sub (wOf n a) (wOf n b)), 0) else
              if op = 3 then (resOf n ((fmtOf n).mul (wOf n a) (wOf n b)), 0) else (resOf n ((fmtOf n).div (wOf n a) (wOf n b)), 0)) := by
            unfold binF; rw [if_neg hr]; simp only; rw [if_neg o7, if_neg o8, if_neg o9, if_neg hnan, if_neg o56]
          rw [e]
          have : op = 1 ∨ op = 2 ∨ op = 3 ∨ op = 4 := by omega
          rcases this with rfl | rfl | rfl | rfl <;> rcases hn with rfl | rfl
          · exact bin1_32 a b w a0 a1 b0 b1 hA hB
          · exact bin1_64 a b w a0 a1 b0 b1 hA hB
          · exact bin2_32 a b w a0 a1 b0 b1 hA hB
          · exact bin2_64 a b w a0 a1 b0 b1 hA hB
          · exact bin3_32 a b w a0 a1 b0 b1 hA hB
          · exact bin3_64 a b w a0 a1 b0 b1 hA hB
          · exact bin4_32 a b w a0 a1 b0 b1 hA hB
          · exact bin4_64 a b w a0 a1 b0 b1 hA hB
  · have e : binF n op a b = (0, 1) := by unfold binF; rw [if_pos (by omega)]
    rw [e]; exact bin_wrong n op a b w ⟨bne_iff_ne.2 (by omega), bne_iff_ne.2 (by omega)⟩
end Go.Proofs.Ytjfmomogidgbpaa.Ref
namespace Go.Proofs.Ytjfmomogidgbpaa.PFl
open Go.RowKit Go.Proofs.YtjfmomogidgbpaaW.PrintWords Go.Proofs.Ytjfmomogidgbpaa.Fl Go.Proofs.Ytjfmomogidgbpaa.Ref
def br_Kind.f (a0 : Int) (a1 : Int) : Option Int := some (kindF a0 a1)
def br_Bin.f (a0 : Int) (a1 : Int) (a2 : Int) (a3 : Int) : Option (Int × Int) :=
  if 0 ≤ a2 ∧ a2 < 18446744073709551616 ∧ 0 ≤ a3 ∧ a3 < 18446744073709551616 then some (binF a0 a1 a2 a3) else none
theorem br_Bin.calls (a0 : Int) (a1 : Int) (a2 : Int) (a3 : Int) (r1 : Int) (r2 : Int) (w : World) (h : br_Bin.f a0 a1 a2 a3 = some (r1, r2)) :
    Calls Try.prog 24 #[.int .i64 a0, .int .i64 a1, .int .u64 a2, .int .u64 a3] w fun e w' => e = .returned (.tuple #[.int .u64 r1, .int .i64 r2]) ∧ Below w.heap.size w w' := by
  unfold br_Bin.f at h
  split at h
  · rename_i hb
    have e := Option.some.inj h
    refine (bin_all a0 a1 a2 a3 w hb.1 hb.2.1 hb.2.2.1 hb.2.2.2).mono fun e' w' hq => ?_
    have := hq.out
    rw [e] at this
    exact this
  · cases h
def br_Un.f (a0 : Int) (a1 : Int) (a2 : Int) : Option (Int × Int) :=
  if 0 ≤ a2 ∧ a2 < 18446744073709551616 then some (unF a0 a1 a2) else none
theorem br_Un.calls (a0 : Int) (a1 : Int) (a2 : Int) (r1 : Int) (r2 : Int) (w : World) (h : br_Un.f a0 a1 a2 = some (r1, r2)) :
    Calls Try.prog 30 #[.int .i64 a0, .int .i64 a1, .int .u64 a2] w fun e w' => e = .returned (.tuple #[.int .u64 r1, .int .i64 r2]) ∧ Below w.heap.size w w' := by
  unfold br_Un.f at h
  split at h
  · rename_i hb
    have e := Option.some.inj h
    refine (un_all a0 a1 a2 w hb.1 hb.2).mono fun e' w' hq => ?_
    have := hq.out
    rw [e] at this
    exact this
  · cases h
def br_Rel.f (a0 : Int) (a1 : Int) (a2 : Int) (a3 : Int) : Option (Bool × Int) := some (relF a0 a1 a2 a3)
theorem br_Rel.calls (a0 : Int) (a1 : Int) (a2 : Int) (a3 : Int) (r1 : Bool) (r2 : Int) (w : World) (h : br_Rel.f a0 a1 a2 a3 = some (r1, r2)) :
    Calls Try.prog 23 #[.int .i64 a0, .int .i64 a1, .int .u64 a2, .int .u64 a3] w fun e w' => e = .returned (.tuple #[.bool r1, .int .i64 r2]) ∧ Below w.heap.size w w' := by
  have e := Option.some.inj h
  refine (rel_all a0 a1 a2 a3 w).mono fun e' w' hq => ?_
  have := hq.out
  rw [e] at this
  exact this
end Go.Proofs.Ytjfmomogidgbpaa.PFl
namespace Go.Proofs.Ytjfmomogidgbpaa.PFm
open Go.RowKit Go.Proofs.Ytjfmomogidgbpaa.PFl Go.Proofs.YtjfmomogidgbpaaW.PrintWords Go.Proofs.YtjfmomogidgbpaaW.PrintLast Go.Proofs.YtjfmomogidgbpaaW.PrintMore
attribute [local go_sem] max2_int min2_int max_two min_two max_three min_three max_four min_four
set_option linter.unusedVariables false
set_option linter.unusedSimpArgs false
def errW : Option Int → Value
 | none => .nilIface
 | some c => .iface 0 (.int .i64 c)
theorem errW_none : errW none = .nilIface := rfl
theorem errW_some (c : Int) : errW (some c) = .iface 0 (.int .i64 c) := rfl
-- the values' own types
end Go.Proofs.Ytjfmomogidgbpaa.PFm
