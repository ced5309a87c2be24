/-
  The contracts of the reference's Kind, Bin, Un and Rel, as closed forms, in the form in which the kit's print uses a function's contract.
  The program's small functions over formats, in closed form: signs, sizes, parts. No condition but that a word is one.
  The program's rounding, in closed form: the float nearest to a number times a power of 2, and perhaps a little more. No condition but the code's own.
  The program's parts, jamming, order and sum, in closed form. No condition but that a word is one.
  The program's product and quotient, in closed form: the whole products and quotients of math/bits, and what is rounded of them. No condition but that a word is one.
  The program's quotient, its lesser and greater one, and its Bin, in closed form. No condition but that a word is one.
  The program's Bin, in closed form. No condition but that a word is one.
  The document's examples, reckoned; the reference's Bin at a word's bits.
  The program's Kind, Canonical and Rel, in closed form. No condition but that a word is one.
  The plain law of FloatsStand: each of the six comparisons of any two, of either size, is the reference's. No condition.
  The program's Un, in closed form: the root by pairs of bits, the whole number, the rest. No condition but that a word is one.
  The program's root, its whole numbers and Un, in closed form. No condition but that a word is one.
  The plain law of FloatsRoots: the size, the opposite and the root of any one, of either size, are the reference's. No condition.
  The plain law of FloatsWhole: any one, made whole in each of four ways, of either size, is the reference's. No condition.
  The plain law of FloatsOne: each operation on one and each comparison, at each size, told or asked wrongly, is the reference's. No condition.
-/
import Derived.Test.YtjfmomogidgbpaaProg
import Derived.Below
import Derived.Deep.Draws
import Derived.Deep.AppendLies
import Derived.Maps.AppendAt
import Derived.OwnWalk
import Derived.Laws.BytesArg
import Derived.Laws.MakeOwn
import Derived.Laws.OwnMore
import Derived.Deep.OwnRows
import Derived.Tactics
import Derived.Lib.ConvBytes
import Derived.Laws.Slices
import Derived.WalkKit
import Derived.KernelRfl
import Derived.RowKit3
import Derived.Deep.LoopGhost
import Derived.Deep.QuietTactic
import Derived.BigQuiet
import Derived.WideLaws
import Derived.Deep.DeepCutAuto
import Derived.Deep.CutBlock
import Derived.Deep.RegionHeld3
import Derived.Laws.Rows
import Derived.Lib.AppendStr
import Derived.ArgAppend
import Derived.Laws.IdiomCopy
import Derived.OrdersHeld
import Derived.Laws.BitsLemmas
import Derived.RowKit
import Derived.OpenShut
import Derived.Test.YtjfmomogidgbpaaZb0
import Derived.Test.YtjfmomogidgbpaaZb1
import Derived.Test.YtjfmomogidgbpaaZb2
import Derived.Test.YtjfmomogidgbpaaZb3
import Derived.Test.YtjfmomogidgbpaaZb4
import Derived.Test.YtjfmomogidgbpaaZb5
namespace Go.Proofs.Ytjfmomogidgbpaa.PFl
open Go.RowKit Go.Proofs.YtjfmomogidgbpaaW.PrintWords Go.Proofs.YtjfmomogidgbpaaW.PrintLast Go.Proofs.YtjfmomogidgbpaaW.PrintMore
attribute [local go_sem] max2_int min2_int max_two min_two max_three min_three max_four min_four
set_option linter.unusedVariables false
set_option linter.unusedSimpArgs false
def floats_Kind.f (a0 : Int) (a1 : Int) : Option (Int) := (floats_of.f a0).bind fun bt274 => ((ff_size.f bt274.1 bt274.2 a1).bind fun t277 => ((ff_none.f bt274.1 bt274.2).bind fun t278 => (if t278 = true then (some 0) else (if t277 = 0 then (some 1) else ((ff_infinity.f bt274.1 bt274.2).bind fun t279 => (if t277 < t279 then (some 2) else ((ff_infinity.f bt274.1 bt274.2).bind fun t280 => (if t277 = t280 then (some 3) else (some 4)))))))))
set_option maxHeartbeats 8000000 in
set_option maxRecDepth 100000 in
theorem floats_Kind.calls (a0 : Int) (a1 : Int) (r : Int) (w : World) (h : floats_Kind.f a0 a1 = some r) :
    Calls Try.prog 22 #[.int .i64 a0, .int .u64 a1] w fun e w' => e = .returned (.int .i64 r) ∧ Below w.heap.size w w' := by
  have hu43 := Try.underlying43
  have HB := As0.mk (Below.refl w.heap.size w)
  have H : ((floats_of.f a0).bind fun bt274 => ((ff_size.f bt274.1 bt274.2 a1).bind fun t277 => ((ff_none.f bt274.1 bt274.2).bind fun t278 => (if t278 = true then (some 0) else (if t277 = 0 then (some 1) else ((ff_infinity.f bt274.1 bt274.2).bind fun t279 => (if t277 < t279 then (some 2) else ((ff_infinity.f bt274.1 bt274.2).bind fun t280 => (if t277 = t280 then (some 3) else (some 4)))))))))) = some r := h
  clear h
  replace H := Option.bind_eq_some_iff.mp H
  obtain ⟨⟨t274, t275⟩, A30, H⟩ := H
  replace H : ((ff_size.f t274 t275 a1).bind fun t277 => ((ff_none.f t274 t275).bind fun t278 => (if t278 = true then (some 0) else (if t277 = 0 then (some 1) else ((ff_infinity.f t274 t275).bind fun t279 => (if t277 < t279 then (some 2) else ((ff_infinity.f t274 t275).bind fun t280 => (if t277 = t280 then (some 3) else (some 4))))))))) = some r := H
  have A3 := As0.mk A30
  clear A30
  replace H := Option.bind_eq_some_iff.mp H
  obtain ⟨t277, A40, H⟩ := H
  replace H : ((ff_none.f t274 t275).bind fun t278 => (if t278 = true then (some 0) else (if t277 = 0 then (some 1) else ((ff_infinity.f t274 t275).bind fun t279 => (if t277 < t279 then (some 2) else ((ff_infinity.f t274 t275).bind fun t280 => (if t277 = t280 then (some 3) else (some 4)))))))) = some r := H
  have A4 := As0.mk A40
  clear A40
  replace H := Option.bind_eq_some_iff.mp H
  obtain ⟨t278, A50, H⟩ := H
  replace H : (if t278 = true then (some 0) else (if t277 = 0 then (some 1) else ((ff_infinity.f t274 t275).bind fun t279 => (if t277 < t279 then (some 2) else ((ff_infinity.f t274 t275).bind fun t280 => (if t277 = t280 then (some 3) else (some 4))))))) = some r := H
  have A5 := As0.mk A50
  clear A50
  by_cases c6 : t278 = true
  · subst c6
    have H1 : (some 0) = some r := by rw [if_pos rfl] at H; exact H
    clear H
    have H := H1
    clear H1
    obtain rfl := Option.some.inj H
    go_enter Try.func22, Try.ntmps22
    go_wp2_with (first | ((with_reducible refine gcl (f := 31) rfl ?_); refine goesL_ (some 8) rfl rfl Try.func31 (by kernel_rfl) rfl #[.int .i64 a0] rfl (by (try simp only [List.map_toArray, List.map_cons, List.map_nil]); first | done | rfl) ?_; (with_reducible refine (floats_of.calls a0 t274 t275 _ A3.out).mono ?_); rintro e w7 ⟨rfl, hb⟩; refine ⟨_, rfl, ?_⟩; have n0_ := As0.mk (bst (by repeat (first | (with_reducible first | exact HB.out | apply bal | apply pwB_ | apply bd1) | exact HB.out)) hb); clear HB; have HB := n0_; clear n0_; (try clear hb); (try clear hb2); (try clear hk); (try clear hi)) | ((with_reducible refine gate_dst (N := 5) rfl ?_); refine box_event ?hg (N := 5) ?hd (cs := #[.int .i64 0, .int .i64 0]) (t := 43) ?hr ?_; (case hd => rfl); (case hg => rfl); (case hr => first | (go_simp; done) | (go_simp; rfl)); intro gb276 hg w8 hbox hb; have n0_ := As0.mk (bst (by repeat (first | (with_reducible first | exact HB.out | apply bal | apply pwB_ | apply bd1) | exact HB.out)) hb); have n1_ := As0.mk (hbox); have n2_ := As0.mk ((by rw [hg]; exact (below_size (by repeat (first | (with_reducible first | exact HB.out | apply bal | apply pwB_ | apply bd1) | exact HB.out))) : w.heap.size ≤ gb276)); have n3_ := As0.mk ((by rw [hg]; exact (below_size (by repeat (first | (with_reducible first | exact HB.out | apply bal | apply pwB_ | apply bd1) | exact HB.out))) : w.heap.size ≤ gb276)); clear HB; have HB := n0_; have BK276 := n1_; have GW276 := n2_; have GE276 := n3_; clear n0_ n1_ n2_ n3_; clear hb hbox hg; have hcz9_0 : w8.cell? ⟨gb276, 0, none⟩ = some (.int .i64 0) := (bce BK276.out 0).trans rfl; have hcz9_1 : w8.cell? ⟨gb276, 1, none⟩ = some (.int .i64 0) := (bce BK276.out 1).trans rfl; have hfz9_0 := bkf BK276.out 0; have hfz9_1 := bkf BK276.out 1) | ((with_reducible refine gcl (f := 40) rfl ?_); refine goesL_ (some 11) rfl rfl Try.func40 (by kernel_rfl) rfl #[.agg #[.int .i64 t274, .int .i64 t275], .int .u64 a1] rfl (by (try simp only [List.map_toArray, List.map_cons, List.map_nil]); first | done | rfl) ?_; (with_reducible refine (ff_size.calls t274 t275 a1 t277 _ A4.out).mono ?_); rintro e w10 ⟨rfl, hb⟩; refine ⟨_, rfl, ?_⟩; have n0_ := As0.mk (bkb (g := gb276) (o := .cells #[.int .i64 t274, .int .i64 t275] 43 (0, 0)) (by (with_reducible repeat (first | refine bkN ?_ _ | refine bkd ?_ | refine bka ?_ _)); refine blk_put (cs := #[.int .i64 t274, .int .i64 0]) ?_ 1 _ rfl; (with_reducible repeat (first | refine bkN ?_ _ | refine bkd ?_ | refine bka ?_ _)); refine blk_put (cs := #[.int .i64 0, .int .i64 0]) ?_ 0 _ rfl; (with_reducible repeat (first | refine bkN ?_ _ | refine bkd ?_ | refine bka ?_ _)); exact BK276.out) hb); have n1_ := As0.mk (bst (by repeat (first | (with_reducible first | exact HB.out | apply bal | apply pwB_ | apply bd1 | refine bse ?_ GE276.out) | exact HB.out)) hb); clear BK276; clear HB; have BK276 := n0_; have HB := n1_; clear n0_ n1_; (try clear hb); (try clear hb2); (try clear hk); (try clear hi); have hcz11_0 : w10.cell? ⟨gb276, 0, none⟩ = some (.int .i64 t274) := (bce BK276.out 0).trans rfl; have hcz11_1 : w10.cell? ⟨gb276, 1, none⟩ = some (.int .i64 t275) := (bce BK276.out 1).trans rfl; have hfz11_0 := bkf BK276.out 0; have hfz11_1 := bkf BK276.out 1) | ((with_reducible refine gcl (f := 32) rfl ?_); refine goesL_ (some 14) rfl rfl Try.func32 (by kernel_rfl) rfl #[.agg #[.int .i64 t274, .int .i64 t275]] rfl (by (try simp only [List.map_toArray, List.map_cons, List.map_nil]); first | done | rfl) ?_; (with_reducible refine (ff_none.calls t274 t275 true _ A5.out).mono ?_); rintro e w12 ⟨rfl, hb⟩; refine ⟨_, rfl, ?_⟩; have n0_ := As0.mk (bkb (g := gb276) (o := .cells #[.int .i64 t274, .int .i64 t275] 43 (0, 0)) (by (with_reducible repeat (first | refine bkN ?_ _ | refine bkd ?_ | refine bka ?_ _)); exact BK276.out) hb); have n1_ := As0.mk (bst (by repeat (first | (with_reducible first | exact HB.out | apply bal | apply pwB_ | apply bd1 | refine bse ?_ GE276.out) | exact HB.out)) hb); clear BK276; clear HB; have BK276 := n0_; have HB := n1_; clear n0_ n1_; (try clear hb); (try clear hb2); (try clear hk); (try clear hi)))
    go_ret
    exact ⟨by first | rfl | (simp [*] <;> rfl), by repeat (first | (with_reducible first | exact HB.out | apply bal | apply pwB_ | apply bd1 | refine bse ?_ GE276.out) | exact HB.out)⟩
  · replace c6 := Bool.eq_false_iff.mpr c6
    subst c6
    have H1 : (if t277 = 0 then (some 1) else ((ff_infinity.f t274 t275).bind fun t279 => (if t277 < t279 then (some 2) else ((ff_infinity.f t274 t275).bind fun t280 => (if t277 = t280 then (some 3) else (some 4)))))) = some r := by rw [if_neg (show ¬ (false = true) by decide)] at H; exact H
    clear H
    have H := H1
    clear H1
    by_cases c13 : t277 = 0
    · rw [if_pos c13] at H
      have c13b0 : (t277 == 0) = true := beq_iff_eq.mpr c13
      have c13b1 : (t277 != 0) = false := bne_eq_false_iff_eq.mpr c13
      clear c13
      obtain rfl := Option.some.inj H
      go_enter Try.func22, Try.ntmps22
      go_wp2_with (first | ((with_reducible refine gcl (f := 31) rfl ?_); refine goesL_ (some 8) rfl rfl Try.func31 (by kernel_rfl) rfl #[.int .i64 a0] rfl (by (try simp only [List.map_toArray, List.map_cons, List.map_nil]); first | done | rfl) ?_; (with_reducible refine (floats_of.calls a0 t274 t275 _ A3.out).mono ?_); rintro e w14 ⟨rfl, hb⟩; refine ⟨_, rfl, ?_⟩; have n0_ := As0.mk (bst (by repeat (first | (with_reducible first | exact HB.out | apply bal | apply pwB_ | apply bd1) | exact HB.out)) hb); clear HB; have HB := n0_; clear n0_; (try clear hb); (try clear hb2); (try clear hk); (try clear hi)) | ((with_reducible refine gate_dst (N := 5) rfl ?_); refine box_event ?hg (N := 5) ?hd (cs := #[.int .i64 0, .int .i64 0]) (t := 43) ?hr ?_; (case hd => rfl); (case hg => rfl); (case hr => first | (go_simp; done) | (go_simp; rfl)); intro gb276 hg w15 hbox hb; have n0_ := As0.mk (bst (by repeat (first | (with_reducible first | exact HB.out | apply bal | apply pwB_ | apply bd1) | exact HB.out)) hb); have n1_ := As0.mk (hbox); have n2_ := As0.mk ((by rw [hg]; exact (below_size (by repeat (first | (with_reducible first | exact HB.out | apply bal | apply pwB_ | apply bd1) | exact HB.out))) : w.heap.size ≤ gb276)); have n3_ := As0.mk ((by rw [hg]; exact (below_size (by repeat (first | (with_reducible first | exact HB.out | apply bal | apply pwB_ | apply bd1) | exact HB.out))) : w.heap.size ≤ gb276)); clear HB; have HB := n0_; have BK276 := n1_; have GW276 := n2_; have GE276 := n3_; clear n0_ n1_ n2_ n3_; clear hb hbox hg; have hcz16_0 : w15.cell? ⟨gb276, 0, none⟩ = some (.int .i64 0) := (bce BK276.out 0).trans rfl; have hcz16_1 : w15.cell? ⟨gb276, 1, none⟩ = some (.int .i64 0) := (bce BK276.out 1).trans rfl; have hfz16_0 := bkf BK276.out 0; have hfz16_1 := bkf BK276.out 1) | ((with_reducible refine gcl (f := 40) rfl ?_); refine goesL_ (some 11) rfl rfl Try.func40 (by kernel_rfl) rfl #[.agg #[.int .i64 t274, .int .i64 t275], .int .u64 a1] rfl (by (try simp only [List.map_toArray, List.map_cons, List.map_nil]); first | done | rfl) ?_; (with_reducible refine (ff_size.calls t274 t275 a1 t277 _ A4.out).mono ?_); rintro e w17 ⟨rfl, hb⟩; refine ⟨_, rfl, ?_⟩; have n0_ := As0.mk (bkb (g := gb276) (o := .cells #[.int .i64 t274, .int .i64 t275] 43 (0, 0)) (by (with_reducible repeat (first | refine bkN ?_ _ | refine bkd ?_ | refine bka ?_ _)); refine blk_put (cs := #[.int .i64 t274, .int .i64 0]) ?_ 1 _ rfl; (with_reducible repeat (first | refine bkN ?_ _ | refine bkd ?_ | refine bka ?_ _)); refine blk_put (cs := #[.int .i64 0, .int .i64 0]) ?_ 0 _ rfl; (with_reducible repeat (first | refine bkN ?_ _ | refine bkd ?_ | refine bka ?_ _)); exact BK276.out) hb); have n1_ := As0.mk (bst (by repeat (first | (with_reducible first | exact HB.out | apply bal | apply pwB_ | apply bd1 | refine bse ?_ GE276.out) | exact HB.out)) hb); clear BK276; clear HB; have BK276 := n0_; have HB := n1_; clear n0_ n1_; (try clear hb); (try clear hb2); (try clear hk); (try clear hi); have hcz18_0 : w17.cell? ⟨gb276, 0, none⟩ = some (.int .i64 t274) := (bce BK276.out 0).trans rfl; have hcz18_1 : w17.cell? ⟨gb276, 1, none⟩ = some (.int .i64 t275) := (bce BK276.out 1).trans rfl; have hfz18_0 := bkf BK276.out 0; have hfz18_1 := bkf BK276.out 1) | ((with_reducible refine gcl (f := 32) rfl ?_); refine goesL_ (some 14) rfl rfl Try.func32 (by kernel_rfl) rfl #[.agg #[.int .i64 t274, .int .i64 t275]] rfl (by (try simp only [List.map_toArray, List.map_cons, List.map_nil]); first | done | rfl) ?_; (with_reducible refine (ff_none.calls t274 t275 false _ A5.out).mono ?_); rintro e w19 ⟨rfl, hb⟩; refine ⟨_, rfl, ?_⟩; have n0_ := As0.mk (bkb (g := gb276) (o := .cells #[.int .i64 t274, .int .i64 t275] 43 (0, 0)) (by (with_reducible repeat (first | refine bkN ?_ _ | refine bkd ?_ | refine bka ?_ _)); exact BK276.out) hb); have n1_ := As0.mk (bst (by repeat (first | (with_reducible first | exact HB.out | apply bal | apply pwB_ | apply bd1 | refine bse ?_ GE276.out) | exact HB.out)) hb); clear BK276; clear HB; have BK276 := n0_; have HB := n1_; clear n0_ n1_; (try clear hb); (try clear hb2); (try clear hk); (try clear hi)))
      go_ret
      exact ⟨by first | rfl | (simp [*] <;> rfl), by repeat (first | (with_reducible first | exact HB.out | apply bal | apply pwB_ | apply bd1 | refine bse ?_ GE276.out) | exact HB.out)⟩
    · rw [if_neg c13] at H
      have c13b0 : (t277 == 0) = false := beq_eq_false_iff_ne.mpr c13
      have c13b1 : (t277 != 0) = true := bne_iff_ne.mpr c13
      replace H := Option.bind_eq_some_iff.mp H
      obtain ⟨t279, A200, H⟩ := H
      replace H : (if t277 < t279 then (some 2) else ((ff_infinity.f t274 t275).bind fun t280 => (if t277 = t280 then (some 3) else (some 4)))) = some r := H
      have A20 := As0.mk A200
      clear A200
      by_cases c21 : t277 < t279
      · rw [if_pos c21] at H
        have c21b0 : decide (t277 < t279) = true := decide_eq_true c21
        clear c21
        obtain rfl := Option.some.inj H
        go_enter Try.func22, Try.ntmps22
        go_wp2_with (first | ((with_reducible refine gcl (f := 31) rfl ?_); refine goesL_ (some 8) rfl rfl Try.func31 (by kernel_rfl) rfl #[.int .i64 a0] rfl (by (try simp only [List.map_toArray, List.map_cons, List.map_nil]); first | done | rfl) ?_; (with_reducible refine (floats_of.calls a0 t274 t275 _ A3.out).mono ?_); rintro e w22 ⟨rfl, hb⟩; refine ⟨_, rfl, ?_⟩; have n0_ := As0.mk (bst (by repeat (first | (with_reducible first | exact HB.out | apply bal | apply pwB_ | apply bd1) | exact HB.out)) hb); clear HB; have HB := n0_; clear n0_; (try clear hb); (try clear hb2); (try clear hk); (try clear hi)) | ((with_reducible refine gate_dst (N := 5) rfl ?_); refine box_event ?hg (N := 5) ?hd (cs := #[.int .i64 0, .int .i64 0]) (t := 43) ?hr ?_; (case hd => rfl); (case hg => rfl); (case hr => first | (go_simp; done) | (go_simp; rfl)); intro gb276 hg w23 hbox hb; have n0_ := As0.mk (bst (by repeat (first | (with_reducible first | exact HB.out | apply bal | apply pwB_ | apply bd1) | exact HB.out)) hb); have n1_ := As0.mk (hbox); have n2_ := As0.mk ((by rw [hg]; exact (below_size (by repeat (first | (with_reducible first | exact HB.out | apply bal | apply pwB_ | apply bd1) | exact HB.out))) : w.heap.size ≤ gb276)); have n3_ := As0.mk ((by rw [hg]; exact (below_size (by repeat (first | (with_reducible first | exact HB.out | apply bal | apply pwB_ | apply bd1) | exact HB.out))) : w.heap.size ≤ gb276)); clear HB; have HB := n0_; have BK276 := n1_; have GW276 := n2_; have GE276 := n3_; clear n0_ n1_ n2_ n3_; clear hb hbox hg; have hcz24_0 : w23.cell? ⟨gb276, 0, none⟩ = some (.int .i64 0) := (bce BK276.out 0).trans rfl; have hcz24_1 : w23.cell? ⟨gb276, 1, none⟩ = some (.int .i64 0) := (bce BK276.out 1).trans rfl; have hfz24_0 := bkf BK276.out 0; have hfz24_1 := bkf BK276.out 1) | ((with_reducible refine gcl (f := 40) rfl ?_); refine goesL_ (some 11) rfl rfl Try.func40 (by kernel_rfl) rfl #[.agg #[.int .i64 t274, .int .i64 t275], .int .u64 a1] rfl (by (try simp only [List.map_toArray, List.map_cons, List.map_nil]); first | done | rfl) ?_; (with_reducible refine (ff_size.calls t274 t275 a1 t277 _ A4.out).mono ?_); rintro e w25 ⟨rfl, hb⟩; refine ⟨_, rfl, ?_⟩; have n0_ := As0.mk (bkb (g := gb276) (o := .cells #[.int .i64 t274, .int .i64 t275] 43 (0, 0)) (by (with_reducible repeat (first | refine bkN ?_ _ | refine bkd ?_ | refine bka ?_ _)); refine blk_put (cs := #[.int .i64 t274, .int .i64 0]) ?_ 1 _ rfl; (with_reducible repeat (first | refine bkN ?_ _ | refine bkd ?_ | refine bka ?_ _)); refine blk_put (cs := #[.int .i64 0, .int .i64 0]) ?_ 0 _ rfl; (with_reducible repeat (first | refine bkN ?_ _ | refine bkd ?_ | refine bka ?_ _)); exact BK276.out) hb); have n1_ := As0.mk (bst (by repeat (first | (with_reducible first | exact HB.out | apply bal | apply pwB_ | apply bd1 | refine bse ?_ GE276.out) | exact HB.out)) hb); clear BK276; clear HB; have BK276 := n0_; have HB := n1_; clear n0_ n1_; (try clear hb); (try clear hb2); (try clear hk); (try clear hi); have hcz26_0 : w25.cell? ⟨gb276, 0, none⟩ = some (.int .i64 t274) := (bce BK276.out 0).trans rfl; have hcz26_1 : w25.cell? ⟨gb276, 1, none⟩ = some (.int .i64 t275) := (bce BK276.out 1).trans rfl; have hfz26_0 := bkf BK276.out 0; have hfz26_1 := bkf BK276.out 1) | ((with_reducible refine gcl (f := 32) rfl ?_); refine goesL_ (some 14) rfl rfl Try.func32 (by kernel_rfl) rfl #[.agg #[.int .i64 t274, .int .i64 t275]] rfl (by (try simp only [List.map_toArray, List.map_cons, List.map_nil]); first | done | rfl) ?_; (with_reducible refine (ff_none.calls t274 t275 false _ A5.out).mono ?_); rintro e w27 ⟨rfl, hb⟩; refine ⟨_, rfl, ?_⟩; have n0_ := As0.mk (bkb (g := gb276) (o := .cells #[.int .i64 t274, .int .i64 t275] 43 (0, 0)) (by (with_reducible repeat (first | refine bkN ?_ _ | refine bkd ?_ | refine bka ?_ _)); exact BK276.out) hb); have n1_ := As0.mk (bst (by repeat (first | (with_reducible first | exact HB.out | apply bal | apply pwB_ | apply bd1 | refine bse ?_ GE276.out) | exact HB.out)) hb); clear BK276; clear HB; have BK276 := n0_; have HB := n1_; clear n0_ n1_; (try clear hb); (try clear hb2); (try clear hk); (try clear hi); have hcz28_0 : w27.cell? ⟨gb276, 0, none⟩ = some (.int .i64 t274) := (bce BK276.out 0).trans rfl; have hcz28_1 : w27.cell? ⟨gb276, 1, none⟩ = some (.int .i64 t275) := (bce BK276.out 1).trans rfl; have hfz28_0 := bkf BK276.out 0; have hfz28_1 := bkf BK276.out 1) | ((with_reducible refine gcl (f := 50) rfl ?_); refine goesL_ (some 21) rfl rfl Try.func50 (by kernel_rfl) rfl #[.agg #[.int .i64 t274, .int .i64 t275]] rfl (by (try simp only [List.map_toArray, List.map_cons, List.map_nil]); first | done | rfl) ?_; (with_reducible refine (ff_infinity.calls t274 t275 t279 _ A20.out).mono ?_); rintro e w29 ⟨rfl, hb⟩; refine ⟨_, rfl, ?_⟩; have n0_ := As0.mk (bkb (g := gb276) (o := .cells #[.int .i64 t274, .int .i64 t275] 43 (0, 0)) (by (with_reducible repeat (first | refine bkN ?_ _ | refine bkd ?_ | refine bka ?_ _)); exact BK276.out) hb); have n1_ := As0.mk (bst (by repeat (first | (with_reducible first | exact HB.out | apply bal | apply pwB_ | apply bd1 | refine bse ?_ GE276.out) | exact HB.out)) hb); clear BK276; clear HB; have BK276 := n0_; have HB := n1_; clear n0_ n1_; (try clear hb); (try clear hb2); (try clear hk); (try clear hi)))
        go_ret
        exact ⟨by first | rfl | (simp [*] <;> rfl), by repeat (first | (with_reducible first | exact HB.out | apply bal | apply pwB_ | apply bd1 | refine bse ?_ GE276.out) | exact HB.out)⟩
      · rw [if_neg c21] at H
        have c21b0 : decide (t277 < t279) = false := decide_eq_false c21
        clear c21
        replace H := Option.bind_eq_some_iff.mp H
        obtain ⟨t280, A300, H⟩ := H
        replace H : (if t277 = t280 then (some 3) else (some 4)) = some r := H
        have A30 := As0.mk A300
        clear A300
        by_cases c31 : t277 = t280
        · rw [if_pos c31] at H
          have c31b0 : (t277 == t280) = true := beq_iff_eq.mpr c31
          have c31b1 : (t277 != t280) = false := bne_eq_false_iff_eq.mpr c31
          clear c31
          obtain rfl := Option.some.inj H
          go_enter Try.func22, Try.ntmps22
          go_wp2_with (first | ((with_reducible refine gcl (f := 31) rfl ?_); refine goesL_ (some 8) rfl rfl Try.func31 (by kernel_rfl) rfl #[.int .i64 a0] rfl (by (try simp only [List.map_toArray, List.map_cons, List.map_nil]); first | done | rfl) ?_; (with_reducible refine (floats_of.calls a0 t274 t275 _ A3.out).mono ?_); rintro e w32 ⟨rfl, hb⟩; refine ⟨_, rfl, ?_⟩; have n0_ := As0.mk (bst (by repeat (first | (with_reducible first | exact HB.out | apply bal | apply pwB_ | apply bd1) | exact HB.out)) hb); clear HB; have HB := n0_; clear n0_; (try clear hb); (try clear hb2); (try clear hk); (try clear hi)) | ((with_reducible refine gate_dst (N := 5) rfl ?_); refine box_event ?hg (N := 5) ?hd (cs := #[.int .i64 0, .int .i64 0]) (t := 43) ?hr ?_; (case hd => rfl); (case hg => rfl); (case hr => first | (go_simp; done) | (go_simp; rfl)); intro gb276 hg w33 hbox hb; have n0_ := As0.mk (bst (by repeat (first | (with_reducible first | exact HB.out | apply bal | apply pwB_ | apply bd1) | exact HB.out)) hb); have n1_ := As0.mk (hbox); have n2_ := As0.mk ((by rw [hg]; exact (below_size (by repeat (first | (with_reducible first | exact HB.out | apply bal | apply pwB_ | apply bd1) | exact HB.out))) : w.heap.size ≤ gb276)); have n3_ := As0.mk ((by rw [hg]; exact (below_size (by repeat (first | (with_reducible first | exact HB.out | apply bal | apply pwB_ | apply bd1) | exact HB.out))) : w.heap.size ≤ gb276)); clear HB; have HB := n0_; have BK276 := n1_; have GW276 := n2_; have GE276 := n3_; clear n0_ n1_ n2_ n3_; clear hb hbox hg; have hcz34_0 : w33.cell? ⟨gb276, 0, none⟩ = some (.int .i64 0) := (bce BK276.out 0).trans rfl; have hcz34_1 : w33.cell? ⟨gb276, 1, none⟩ = some (.int .i64 0) := (bce BK276.out 1).trans rfl; have hfz34_0 := bkf BK276.out 0; have hfz34_1 := bkf BK276.out 1) | ((with_reducible refine gcl (f := 40) rfl ?_); refine goesL_ (some 11) rfl rfl Try.func40 (by kernel_rfl) rfl #[.agg #[.int .i64 t274, .int .i64 t275], .int .u64 a1] rfl (by (try simp only [List.map_toArray, List.map_cons, List.map_nil]); first | done | rfl) ?_; (with_reducible refine (ff_size.calls t274 t275 a1 t277 _ A4.out).mono ?_); rintro e w35 ⟨rfl, hb⟩; refine ⟨_, rfl, ?_⟩; have n0_ := As0.mk (bkb (g := gb276) (o := .cells #[.int .i64 t274, .int .i64 t275] 43 (0, 0)) (by (with_reducible repeat (first | refine bkN ?_ _ | refine bkd ?_ | refine bka ?_ _)); refine blk_put (cs := #[.int .i64 t274, .int .i64 0]) ?_ 1 _ rfl; (with_reducible repeat (first | refine bkN ?_ _ | refine bkd ?_ | refine bka ?_ _)); refine blk_put (cs := #[.int .i64 0, .int .i64 0]) ?_ 0 _ rfl; (with_reducible repeat (first | refine bkN ?_ _ | refine bkd ?_ | refine bka ?_ _)); exact BK276.out) hb); have n1_ := As0.mk (bst (by repeat (first | (with_reducible first | exact HB.out | apply bal | apply pwB_ | apply bd1 | refine bse ?_ GE276.out) | exact HB.out)) hb); clear BK276; clear HB; have BK276 := n0_; have HB := n1_; clear n0_ n1_; (try clear hb); (try clear hb2); (try clear hk); (try clear hi); have hcz36_0 : w35.cell? ⟨gb276, 0, none⟩ = some (.int .i64 t274) := (bce BK276.out 0).trans rfl; have hcz36_1 : w35.cell? ⟨gb276, 1, none⟩ = some (.int .i64 t275) := (bce BK276.out 1).trans rfl; have hfz36_0 := bkf BK276.out 0; have hfz36_1 := bkf BK276.out 1) | ((with_reducible refine gcl (f := 32) rfl ?_); refine goesL_ (some 14) rfl rfl Try.func32 (by kernel_rfl) rfl #[.agg #[.int .i64 t274, .int .i64 t275]] rfl (by (try simp only [List.map_toArray, List.map_cons, List.map_nil]); first | done | rfl) ?_; (with_reducible refine (ff_none.calls t274 t275 false _ A5.out).mono ?_); rintro e w37 ⟨rfl, hb⟩; refine ⟨_, rfl, ?_⟩; have n0_ := As0.mk (bkb (g := gb276) (o := .cells #[.int .i64 t274, .int .i64 t275] 43 (0, 0)) (by (with_reducible repeat (first | refine bkN ?_ _ | refine bkd ?_ | refine bka ?_ _)); exact BK276.out) hb); have n1_ := As0.mk (bst (by repeat (first | (with_reducible first | exact HB.out | apply bal | apply pwB_ | apply bd1 | refine bse ?_ GE276.out) | exact HB.out)) hb); clear BK276; clear HB; have BK276 := n0_; have HB := n1_; clear n0_ n1_; (try clear hb); (try clear hb2); (try clear hk); (try clear hi); have hcz38_0 : w37.cell? ⟨gb276, 0, none⟩ = some (.int .i64 t274) := (bce BK276.out 0).trans rfl; have hcz38_1 : w37.cell? ⟨gb276, 1, none⟩ = some (.int .i64 t275) := (bce BK276.out 1).trans rfl; have hfz38_0 := bkf BK276.out 0; have hfz38_1 := bkf BK276.out 1) | ((with_reducible refine gcl (f := 50) rfl ?_); refine goesL_ (some 21) rfl rfl Try.func50 (by kernel_rfl) rfl #[.agg #[.int .i64 t274, .int .i64 t275]] rfl (by (try simp only [List.map_toArray, List.map_cons, List.map_nil]); first | done | rfl) ?_; (with_reducible refine (ff_infinity.calls t274 t275 t279 _ A20.out).mono ?_); rintro e w39 ⟨rfl, hb⟩; refine ⟨_, rfl, ?_⟩; have n0_ := As0.mk (bkb (g := gb276) (o := .cells #[.int .i64 t274, .int .i64 t275] 43 (0, 0)) (by (with_reducible repeat (first | refine bkN ?_ _ | refine bkd ?_ | refine bka ?_ _)); exact BK276.out) hb); have n1_ := As0.mk (bst (by repeat (first | (with_reducible first | exact HB.out | apply bal | apply pwB_ | apply bd1 | refine bse ?_ GE276.out) | exact HB.out)) hb); clear BK276; clear HB; have BK276 := n0_; have HB := n1_; clear n0_ n1_; (try clear hb); (try clear hb2); (try clear hk); (try clear hi); have hcz40_0 : w39.cell? ⟨gb276, 0, none⟩ = some (.int .i64 t274) := (bce BK276.out 0).trans rfl; have hcz40_1 : w39.cell? ⟨gb276, 1, none⟩ = some (.int .i64 t275) := (bce BK276.out 1).trans rfl; have hfz40_0 := bkf BK276.out 0; have hfz40_1 := bkf BK276.out 1) | ((with_reducible refine gcl (f := 50) rfl ?_); refine goesL_ (some 26) rfl rfl Try.func50 (by kernel_rfl) rfl #[.agg #[.int .i64 t274, .int .i64 t275]] rfl (by (try simp only [List.map_toArray, List.map_cons, List.map_nil]); first | done | rfl) ?_; (with_reducible refine (ff_infinity.calls t274 t275 t280 _ A30.out).mono ?_); rintro e w41 ⟨rfl, hb⟩; refine ⟨_, rfl, ?_⟩; have n0_ := As0.mk (bkb (g := gb276) (o := .cells #[.int .i64 t274, .int .i64 t275] 43 (0, 0)) (by (with_reducible repeat (first | refine bkN ?_ _ | refine bkd ?_ | refine bka ?_ _)); exact BK276.out) hb); have n1_ := As0.mk (bst (by repeat (first | (with_reducible first | exact HB.out | apply bal | apply pwB_ | apply bd1 | refine bse ?_ GE276.out) | exact HB.out)) hb); clear BK276; clear HB; have BK276 := n0_; have HB := n1_; clear n0_ n1_; (try clear hb); (try clear hb2); (try clear hk); (try clear hi)))
          go_ret
          exact ⟨by first | rfl | (simp [*] <;> rfl), by repeat (first | (with_reducible first | exact HB.out | apply bal | apply pwB_ | apply bd1 | refine bse ?_ GE276.out) | exact HB.out)⟩
        · rw [if_neg c31] at H
          have c31b0 : (t277 == t280) = false := beq_eq_false_iff_ne.mpr c31
          have c31b1 : (t277 != t280) = true := bne_iff_ne.mpr c31
          obtain rfl := Option.some.inj H
          go_enter Try.func22, Try.ntmps22
          go_wp2_with (first | ((with_reducible refine gcl (f := 31) rfl ?_); refine goesL_ (some 8) rfl rfl Try.func31 (by kernel_rfl) rfl #[.int .i64 a0] rfl (by (try simp only [List.map_toArray, List.map_cons, List.map_nil]); first | done | rfl) ?_; (with_reducible refine (floats_of.calls a0 t274 t275 _ A3.out).mono ?_); rintro e w42 ⟨rfl, hb⟩; refine ⟨_, rfl, ?_⟩; have n0_ := As0.mk (bst (by repeat (first | (with_reducible first | exact HB.out | apply bal | apply pwB_ | apply bd1) | exact HB.out)) hb); clear HB; have HB := n0_; clear n0_; (try clear hb); (try clear hb2); (try clear hk); (try clear hi)) | ((with_reducible refine gate_dst (N := 5) rfl ?_); refine box_event ?hg (N := 5) ?hd (cs := #[.int .i64 0, .int .i64 0]) (t := 43) ?hr ?_; (case hd => rfl); (case hg => rfl); (case hr => first | (go_simp; done) | (go_simp; rfl)); intro gb276 hg w43 hbox hb; have n0_ := As0.mk (bst (by repeat (first | (with_reducible first | exact HB.out | apply bal | apply pwB_ | apply bd1) | exact HB.out)) hb); have n1_ := As0.mk (hbox); have n2_ := As0.mk ((by rw [hg]; exact (below_size (by repeat (first | (with_reducible first | exact HB.out | apply bal | apply pwB_ | apply bd1) | exact HB.out))) : w.heap.size ≤ gb276)); have n3_ := As0.mk ((by rw [hg]; exact (below_size (by repeat (first | (with_reducible first | exact HB.out | apply bal | apply pwB_ | apply bd1) | exact HB.out))) : w.heap.size ≤ gb276)); clear HB; have HB := n0_; have BK276 := n1_; have GW276 := n2_; have GE276 := n3_; clear n0_ n1_ n2_ n3_; clear hb hbox hg; have hcz44_0 : w43.cell? ⟨gb276, 0, none⟩ = some (.int .i64 0) := (bce BK276.out 0).trans rfl; have hcz44_1 : w43.cell? ⟨gb276, 1, none⟩ = some (.int .i64 0) := (bce BK276.out 1).trans rfl; have hfz44_0 := bkf BK276.out 0; have hfz44_1 := bkf BK276.out 1) | ((with_reducible refine gcl (f := 40) rfl ?_); refine goesL_ (some 11) rfl rfl Try.func40 (by kernel_rfl) rfl #[.agg #[.int .i64 t274, .int .i64 t275], .int .u64 a1] rfl (by (try simp only [List.map_toArray, List.map_cons, List.map_nil]); first | done | rfl) ?_; (with_reducible refine (ff_size.calls t274 t275 a1 t277 _ A4.out).mono ?_); rintro e w45 ⟨rfl, hb⟩; refine ⟨_, rfl, ?_⟩; have n0_ := As0.mk (bkb (g := gb276) (o := .cells #[.int .i64 t274, .int .i64 t275] 43 (0, 0)) (by (with_reducible repeat (first | refine bkN ?_ _ | refine bkd ?_ | refine bka ?_ _)); refine blk_put (cs := #[.int .i64 t274, .int .i64 0]) ?_ 1 _ rfl; (with_reducible repeat (first | refine bkN ?_ _ | refine bkd ?_ | refine bka ?_ _)); refine blk_put (cs := #[.int .i64 0, .int .i64 0]) ?_ 0 _ rfl; (with_reducible repeat (first | refine bkN ?_ _ | refine bkd ?_ | refine bka ?_ _)); exact BK276.out) hb); have n1_ := As0.mk (bst (by repeat (first | (with_reducible first | exact HB.out | apply bal | apply pwB_ | apply bd1 | refine bse ?_ GE276.out) | exact HB.out)) hb); clear BK276; clear HB; have BK276 := n0_; have HB := n1_; clear n0_ n1_; (try clear hb); (try clear hb2); (try clear hk); (try clear hi); have hcz46_0 : w45.cell? ⟨gb276, 0, none⟩ = some (.int .i64 t274) := (bce BK276.out 0).trans rfl; have hcz46_1 : w45.cell? ⟨gb276, 1, none⟩ = some (.int .i64 t275) := (bce BK276.out 1).trans rfl; have hfz46_0 := bkf BK276.out 0; have hfz46_1 := bkf BK276.out 1) | ((with_reducible refine gcl (f := 32) rfl ?_); refine goesL_ (some 14) rfl rfl Try.func32 (by kernel_rfl) rfl #[.agg #[.int .i64 t274, .int .i64 t275]] rfl (by (try simp only [List.map_toArray, List.map_cons, List.map_nil]); first | done | rfl) ?_; (with_reducible refine (ff_none.calls t274 t275 false _ A5.out).mono ?_); rintro e w47 ⟨rfl, hb⟩; refine ⟨_, rfl, ?_⟩; have n0_ := As0.mk (bkb (g := gb276) (o := .cells #[.int .i64 t274, .int .i64 t275] 43 (0, 0)) (by (with_reducible repeat (first | refine bkN ?_ _ | refine bkd ?_ | refine bka ?_ _)); exact BK276.out) hb); have n1_ := As0.mk (bst (by repeat (first | (with_reducible first | exact HB.out | apply bal | apply pwB_ | apply bd1 | refine bse ?_ GE276.out) | exact HB.out)) hb); clear BK276; clear HB; have BK276 := n0_; have HB := n1_; clear n0_ n1_; (try clear hb); (try clear hb2); (try clear hk); (try clear hi); have hcz48_0 : w47.cell? ⟨gb276, 0, none⟩ = some (.int .i64 t274) := (bce BK276.out 0).trans rfl; have hcz48_1 : w47.cell? ⟨gb276, 1, none⟩ = some (.int .i64 t275) := (bce BK276.out 1).trans rfl; have hfz48_0 := bkf BK276.out 0; have hfz48_1 := bkf BK276.out 1) | ((with_reducible refine gcl (f := 50) rfl ?_); refine goesL_ (some 21) rfl rfl Try.func50 (by kernel_rfl) rfl #[.agg #[.int .i64 t274, .int .i64 t275]] rfl (by (try simp only [List.map_toArray, List.map_cons, List.map_nil]); first | done | rfl) ?_; (with_reducible refine (ff_infinity.calls t274 t275 t279 _ A20.out).mono ?_); rintro e w49 ⟨rfl, hb⟩; refine ⟨_, rfl, ?_⟩; have n0_ := As0.mk (bkb (g := gb276) (o := .cells #[.int .i64 t274, .int .i64 t275] 43 (0, 0)) (by (with_reducible repeat (first | refine bkN ?_ _ | refine bkd ?_ | refine bka ?_ _)); exact BK276.out) hb); have n1_ := As0.mk (bst (by repeat (first | (with_reducible first | exact HB.out | apply bal | apply pwB_ | apply bd1 | refine bse ?_ GE276.out) | exact HB.out)) hb); clear BK276; clear HB; have BK276 := n0_; have HB := n1_; clear n0_ n1_; (try clear hb); (try clear hb2); (try clear hk); (try clear hi); have hcz50_0 : w49.cell? ⟨gb276, 0, none⟩ = some (.int .i64 t274) := (bce BK276.out 0).trans rfl; have hcz50_1 : w49.cell? ⟨gb276, 1, none⟩ = some (.int .i64 t275) := (bce BK276.out 1).trans rfl; have hfz50_0 := bkf BK276.out 0; have hfz50_1 := bkf BK276.out 1) | ((with_reducible refine gcl (f := 50) rfl ?_); refine goesL_ (some 26) rfl rfl Try.func50 (by kernel_rfl) rfl #[.agg #[.int .i64 t274, .int .i64 t275]] rfl (by (try simp only [List.map_toArray, List.map_cons, List.map_nil]); first | done | rfl) ?_; (with_reducible refine (ff_infinity.calls t274 t275 t280 _ A30.out).mono ?_); rintro e w51 ⟨rfl, hb⟩; refine ⟨_, rfl, ?_⟩; have n0_ := As0.mk (bkb (g := gb276) (o := .cells #[.int .i64 t274, .int .i64 t275] 43 (0, 0)) (by (with_reducible repeat (first | refine bkN ?_ _ | refine bkd ?_ | refine bka ?_ _)); exact BK276.out) hb); have n1_ := As0.mk (bst (by repeat (first | (with_reducible first | exact HB.out | apply bal | apply pwB_ | apply bd1 | refine bse ?_ GE276.out) | exact HB.out)) hb); clear BK276; clear HB; have BK276 := n0_; have HB := n1_; clear n0_ n1_; (try clear hb); (try clear hb2); (try clear hk); (try clear hi)))
          go_ret
          exact ⟨by first | rfl | (simp [*] <;> rfl), by repeat (first | (with_reducible first | exact HB.out | apply bal | apply pwB_ | apply bd1 | refine bse ?_ GE276.out) | exact HB.out)⟩
def floats_Canonical.f (a0 : Int) : Option (Int) := (floats_of.f a0).bind fun bt281 => ((ff_none.f bt281.1 bt281.2).bind fun t283 => (if t283 = true then (some 0) else ((floats_of.f a0).bind fun bt284 => ((ff_nan.f bt284.1 bt284.2).bind fun t286 => (some t286)))))
set_option maxHeartbeats 8000000 in
set_option maxRecDepth 100000 in
theorem floats_Canonical.calls (a0 : Int) (r : Int) (w : World) (h : floats_Canonical.f a0 = some r) :
    Calls Try.prog 26 #[.int .i64 a0] w fun e w' => e = .returned (.int .u64 r) ∧ Below w.heap.size w w' := by
  have HB := As0.mk (Below.refl w.heap.size w)
  have H : ((floats_of.f a0).bind fun bt281 => ((ff_none.f bt281.1 bt281.2).bind fun t283 => (if t283 = true then (some 0) else ((floats_of.f a0).bind fun bt284 => ((ff_nan.f bt284.1 bt284.2).bind fun t286 => (some t286)))))) = some r := h
  clear h
  replace H := Option.bind_eq_some_iff.mp H
  obtain ⟨⟨t281, t282⟩, A20, H⟩ := H
  replace H : ((ff_none.f t281 t282).bind fun t283 => (if t283 = true then (some 0) else ((floats_of.f a0).bind fun bt284 => ((ff_nan.f bt284.1 bt284.2).bind fun t286 => (some t286))))) = some r := H
  have A2 := As0.mk A20
  clear A20
  replace H := Option.bind_eq_some_iff.mp H
  obtain ⟨t283, A30, H⟩ := H
  replace H : (if t283 = true then (some 0) else ((floats_of.f a0).bind fun bt284 => ((ff_nan.f bt284.1 bt284.2).bind fun t286 => (some t286)))) = some r := H
  have A3 := As0.mk A30
  clear A30
  by_cases c4 : t283 = true
  · subst c4
    have H1 : (some 0) = some r := by rw [if_pos rfl] at H; exact H
    clear H
    have H := H1
    clear H1
    obtain rfl := Option.some.inj H
    go_enter Try.func26, Try.ntmps26
    go_wp2_with (first | ((with_reducible refine gcl (f := 31) rfl ?_); refine goesL_ (some 4) rfl rfl Try.func31 (by kernel_rfl) rfl #[.int .i64 a0] rfl (by (try simp only [List.map_toArray, List.map_cons, List.map_nil]); first | done | rfl) ?_; (with_reducible refine (floats_of.calls a0 t281 t282 _ A2.out).mono ?_); rintro e w5 ⟨rfl, hb⟩; refine ⟨_, rfl, ?_⟩; have n0_ := As0.mk (bst (by repeat (first | (with_reducible first | exact HB.out | apply bal | apply pwB_ | apply bd1) | exact HB.out)) hb); clear HB; have HB := n0_; clear n0_; (try clear hb); (try clear hb2); (try clear hk); (try clear hi)) | ((with_reducible refine gcl (f := 32) rfl ?_); refine goesL_ (some 5) rfl rfl Try.func32 (by kernel_rfl) rfl #[.agg #[.int .i64 t281, .int .i64 t282]] rfl (by (try simp only [List.map_toArray, List.map_cons, List.map_nil]); first | done | rfl) ?_; (with_reducible refine (ff_none.calls t281 t282 true _ A3.out).mono ?_); rintro e w6 ⟨rfl, hb⟩; refine ⟨_, rfl, ?_⟩; have n0_ := As0.mk (bst (by repeat (first | (with_reducible first | exact HB.out | apply bal | apply pwB_ | apply bd1) | exact HB.out)) hb); clear HB; have HB := n0_; clear n0_; (try clear hb); (try clear hb2); (try clear hk); (try clear hi)))
    go_ret
    exact ⟨by first | rfl | (simp [*] <;> rfl), by repeat (first | (with_reducible first | exact HB.out | apply bal | apply pwB_ | apply bd1) | exact HB.out)⟩
  · replace c4 := Bool.eq_false_iff.mpr c4
    subst c4
    have H1 : ((floats_of.f a0).bind fun bt284 => ((ff_nan.f bt284.1 bt284.2).bind fun t286 => (some t286))) = some r := by rw [if_neg (show ¬ (false = true) by decide)] at H; exact H
    clear H
    have H := H1
    clear H1
    replace H := Option.bind_eq_some_iff.mp H
    obtain ⟨⟨t284, t285⟩, A70, H⟩ := H
    replace H : ((ff_nan.f t284 t285).bind fun t286 => (some t286)) = some r := H
    have A7 := As0.mk A70
    clear A70
    replace H := Option.bind_eq_some_iff.mp H
    obtain ⟨t286, A80, H⟩ := H
    replace H : (some t286) = some r := H
    have A8 := As0.mk A80
    clear A80
    obtain rfl := Option.some.inj H
    go_enter Try.func26, Try.ntmps26
    go_wp2_with (first | ((with_reducible refine gcl (f := 31) rfl ?_); refine goesL_ (some 4) rfl rfl Try.func31 (by kernel_rfl) rfl #[.int .i64 a0] rfl (by (try simp only [List.map_toArray, List.map_cons, List.map_nil]); first | done | rfl) ?_; (with_reducible refine (floats_of.calls a0 t281 t282 _ A2.out).mono ?_); rintro e w9 ⟨rfl, hb⟩; refine ⟨_, rfl, ?_⟩; have n0_ := As0.mk (bst (by repeat (first | (with_reducible first | exact HB.out | apply bal | apply pwB_ | apply bd1) | exact HB.out)) hb); clear HB; have HB := n0_; clear n0_; (try clear hb); (try clear hb2); (try clear hk); (try clear hi)) | ((with_reducible refine gcl (f := 32) rfl ?_); refine goesL_ (some 5) rfl rfl Try.func32 (by kernel_rfl) rfl #[.agg #[.int .i64 t281, .int .i64 t282]] rfl (by (try simp only [List.map_toArray, List.map_cons, List.map_nil]); first | done | rfl) ?_; (with_reducible refine (ff_none.calls t281 t282 false _ A3.out).mono ?_); rintro e w10 ⟨rfl, hb⟩; refine ⟨_, rfl, ?_⟩; have n0_ := As0.mk (bst (by repeat (first | (with_reducible first | exact HB.out | apply bal | apply pwB_ | apply bd1) | exact HB.out)) hb); clear HB; have HB := n0_; clear n0_; (try clear hb); (try clear hb2); (try clear hk); (try clear hi)) | ((with_reducible refine gcl (f := 31) rfl ?_); refine goesL_ (some 7) rfl rfl Try.func31 (by kernel_rfl) rfl #[.int .i64 a0] rfl (by (try simp only [List.map_toArray, List.map_cons, List.map_nil]); first | done | rfl) ?_; (with_reducible refine (floats_of.calls a0 t284 t285 _ A7.out).mono ?_); rintro e w11 ⟨rfl, hb⟩; refine ⟨_, rfl, ?_⟩; have n0_ := As0.mk (bst (by repeat (first | (with_reducible first | exact HB.out | apply bal | apply pwB_ | apply bd1) | exact HB.out)) hb); clear HB; have HB := n0_; clear n0_; (try clear hb); (try clear hb2); (try clear hk); (try clear hi)) | ((with_reducible refine gcl (f := 42) rfl ?_); refine goesL_ (some 8) rfl rfl Try.func42 (by kernel_rfl) rfl #[.agg #[.int .i64 t284, .int .i64 t285]] rfl (by (try simp only [List.map_toArray, List.map_cons, List.map_nil]); first | done | rfl) ?_; (with_reducible refine (ff_nan.calls t284 t285 t286 _ A8.out).mono ?_); rintro e w12 ⟨rfl, hb⟩; refine ⟨_, rfl, ?_⟩; have n0_ := As0.mk (bst (by repeat (first | (with_reducible first | exact HB.out | apply bal | apply pwB_ | apply bd1) | exact HB.out)) hb); clear HB; have HB := n0_; clear n0_; (try clear hb); (try clear hb2); (try clear hk); (try clear hi)))
    go_ret
    exact ⟨by first | rfl | (simp [*] <;> rfl), by repeat (first | (with_reducible first | exact HB.out | apply bal | apply pwB_ | apply bd1) | exact HB.out)⟩
/-- The document's examples come to true. -/
def bl_awake.f (_ : Nat) : Option Bool := some true
theorem bl_awake.mono : ∀ k, LeO (bl_awake.f k) (bl_awake.f (k + 1)) := fun _ => LeO.refl _
set_option maxHeartbeats 1000000 in
set_option maxRecDepth 100000 in
theorem bl_awake.calls (k : Nat) (r : Bool) (w : World) (h : bl_awake.f k = some r) :
    Calls Try.prog 16 #[] w fun e w' => e = .returned (.bool r) ∧ Below w.heap.size w w' := by
  obtain rfl := Option.some.inj h
  clear h
  go_enter Try.func16, Try.ntmps16
  go_wp2_with fail
  refine (floats_Bin.calls 100 32 1 1065353216 1073741824 1077936128 0 _ (by decide +kernel)).mono ?_
  rintro e w1 ⟨rfl, b1⟩
  have B1 := As0.mk b1
  clear b1
  go_wp2_with fail
  refine (floats_Bin.calls 100 64 4 4607182418800017408 4613937818241073152 4599676419421066581 0 _ (by decide +kernel)).mono ?_
  rintro e w2 ⟨rfl, b2⟩
  have B2 := As0.mk (B1.out.trans (b2.mono (Nat.le_trans (Nat.le_refl _) B1.out.size)))
  clear b2 B1
  go_wp2_with fail
  refine (floats_Un.calls 100 32 7 1075838976 1073741824 0 _ (by decide +kernel)).mono ?_
  rintro e w3 ⟨rfl, b3⟩
  have B3 := As0.mk (B2.out.trans (b3.mono B2.out.size))
  clear b3 B2
  go_wp2_with fail
  refine (floats_Rel.calls 100 64 1 0 9223372036854775808 true 0 _ (by decide +kernel)).mono ?_
  rintro e w4 ⟨rfl, b4⟩
  have B4 := As0.mk (B3.out.trans (b4.mono B3.out.size))
  clear b4 B3
  go_wp2_with fail
  refine (floats_Round.calls 100 32 true 3 (-1) false 3217031168 0 _ (by decide +kernel)).mono ?_
  rintro e w5 ⟨rfl, b5⟩
  have B5 := As0.mk (B4.out.trans (b5.mono B4.out.size))
  clear b5 B4
  go_wp2_with fail
  refine (floats_Kind.calls 32 2139095040 3 _ (by decide +kernel)).mono ?_
  rintro e w6 ⟨rfl, b6⟩
  have B6 := As0.mk (B5.out.trans (b6.mono B5.out.size))
  clear b6 B5
  go_wp2_with fail
  refine (floats_Canonical.calls 32 2143289344 _ (by decide +kernel)).mono ?_
  rintro e w7 ⟨rfl, b7⟩
  have B7 := As0.mk (B6.out.trans (b7.mono B6.out.size))
  clear b7 B6
  go_wp2_with fail
  go_ret
  exact ⟨rfl, B7.out⟩
end Go.Proofs.Ytjfmomogidgbpaa.PFl
namespace Go.Proofs.Ytjfmomogidgbpaa.PFl
open Go.RowKit Go.Proofs.YtjfmomogidgbpaaW.PrintWords Go.Proofs.YtjfmomogidgbpaaW.PrintLast Go.Proofs.YtjfmomogidgbpaaW.PrintMore
attribute [local go_sem] max2_int min2_int max_two min_two max_three min_three max_four min_four
set_option linter.unusedVariables false
set_option linter.unusedSimpArgs false
mutual
def br_near.j0 : Nat → Int → Int → Int → Int → Int → Int → Option (Int)
  | 0, _, _, _, _, _, _ => none
  | k + 1, x0, x1, x3, x4, x5, x13 => br_near.l0 k x0 x1 x3 x4 x5 x13
def br_near.l0 : Nat → Int → Int → Int → Int → Int → Int → Option (Int)
  | 0, _, _, _, _, _, _ => none
  | k + 1, x0, x1, x3, x4, x5, x13 => if 0 ≤ (IntKind.u64.wrap (x3)) then (if x0 ≥ (shl .u64 2 (IntKind.u64.wrap (x3))) then (br_near.j2 k x0 x1 x3 x4 x5 x13 true) else (br_near.j2 k x0 x1 x3 x4 x5 x13 (decide (x1 < x4)))) else (none)
def br_near.j2 : Nat → Int → Int → Int → Int → Int → Int → Bool → Option (Int)
  | 0, _, _, _, _, _, _, _ => none
  | k + 1, x0, x1, x3, x4, x5, x13, x31 => if x31 = true then (if (wrap64 (Int.tmod x0 2)) = 1 then (br_near.j3 k (IntKind.u64.wrap (Int.tdiv x0 2)) (wrap64 (x1 + 1)) x3 x4 x5 x13 (wrap64 (Int.tmod x0 2)) (x13 == 0)) else (br_near.j3 k (IntKind.u64.wrap (Int.tdiv x0 2)) (wrap64 (x1 + 1)) x3 x4 x5 x13 (wrap64 (Int.tmod x0 2)) false)) else (if x13 = 3 then (br_near.j4 k x0 x1 x3 x4 x5 true) else (if x13 = 2 then (br_near.j4 k x0 x1 x3 x4 x5 ((Int.tmod x0 2) == 1)) else (br_near.j4 k x0 x1 x3 x4 x5 false)))
def br_near.j3 : Nat → Int → Int → Int → Int → Int → Int → Int → Bool → Option (Int)
  | 0, _, _, _, _, _, _, _, _ => none
  | k + 1, x0, x1, x3, x4, x5, x13, x14, x44 => if x44 = true then (if x0 = 0 then (if x1 < (wrap64 (x4 - 1)) then (some 0) else (br_near.l0 k x0 x1 x3 x4 x5 2)) else (br_near.l0 k x0 x1 x3 x4 x5 2)) else (if x14 = 1 then (if x0 = 0 then (if x1 < (wrap64 (x4 - 1)) then (some 0) else (br_near.l0 k x0 x1 x3 x4 x5 3)) else (br_near.l0 k x0 x1 x3 x4 x5 3)) else (if x13 > 1 then (if x0 = 0 then (if x1 < (wrap64 (x4 - 1)) then (some 0) else (br_near.l0 k x0 x1 x3 x4 x5 1)) else (br_near.l0 k x0 x1 x3 x4 x5 1)) else (if x0 = 0 then (if x1 < (wrap64 (x4 - 1)) then (some 0) else (br_near.l0 k x0 x1 x3 x4 x5 x13)) else (br_near.l0 k x0 x1 x3 x4 x5 x13))))
def br_near.j4 : Nat → Int → Int → Int → Int → Int → Bool → Option (Int)
  | 0, _, _, _, _, _, _ => none
  | k + 1, x0, x1, x3, x4, x5, x67 => if x67 = true then (br_near.j5 k (IntKind.u64.wrap (x0 + 1)) x1 x3 x4 x5) else (br_near.j5 k x0 x1 x3 x4 x5)
def br_near.j5 : Nat → Int → Int → Int → Int → Int → Option (Int)
  | 0, _, _, _, _, _ => none
  | k + 1, x0, x1, x3, x4, x5 => br_near.l1 k x0 x1 x3 x4 x5
def br_near.j7 : Nat → Int → Int → Int → Int → Int → Option (Int)
  | 0, _, _, _, _, _ => none
  | k + 1, x0, x1, x3, x4, x5 => if 0 ≤ (IntKind.u64.wrap (x3)) then (if x0 ≥ (shl .u64 2 (IntKind.u64.wrap (x3))) then (br_near.j8 k (IntKind.u64.wrap (Int.tdiv x0 2)) (wrap64 (x1 + 1)) x3 x4 x5) else (br_near.j8 k x0 x1 x3 x4 x5)) else (none)
def br_near.j8 : Nat → Int → Int → Int → Int → Int → Option (Int)
  | 0, _, _, _, _, _ => none
  | k + 1, x0, x1, x3, x4, x5 => if 0 ≤ (IntKind.u64.wrap (x3)) then (if x0 < (shl .u64 1 (IntKind.u64.wrap (x3))) then (some x0) else (if (wrap64 (x1 - x4)) > 3000 then (some x5) else (if (IntKind.u64.wrap ((shl .u64 (IntKind.u64.wrap (wrap64 (x1 - x4))) (IntKind.u64.wrap (x3))) + x0)) > x5 then (some x5) else (some (IntKind.u64.wrap ((shl .u64 (IntKind.u64.wrap (wrap64 (x1 - x4))) (IntKind.u64.wrap (x3))) + x0)))))) else (none)
def br_near.l1 : Nat → Int → Int → Int → Int → Int → Option (Int)
  | 0, _, _, _, _, _ => none
  | k + 1, x0, x1, x3, x4, x5 => if 0 ≤ (IntKind.u64.wrap (x3)) then (if x0 < (shl .u64 1 (IntKind.u64.wrap (x3))) then (if x1 > x4 then (br_near.l1 k (IntKind.u64.wrap (x0 * 2)) (wrap64 (x1 - 1)) x3 x4 x5) else (br_near.j7 k x0 x1 x3 x4 x5)) else (br_near.j7 k x0 x1 x3 x4 x5)) else (none)
end
def br_near.f (k : Nat) (a0 : Int) (a1 : Int) (a2 : Bool) (a3 : Int) (a4 : Int) (a5 : Int) : Option (Int) := if a1 > 3000 then (some a5) else (if a1 < (-3000) then (some 0) else (if a2 = true then (br_near.j0 k a0 a1 a3 a4 a5 1) else (br_near.j0 k a0 a1 a3 a4 a5 0)))
theorem br_near.mono_l : ∀ k, (∀ y0 y1 y2 y3 y4 y5, LeO (br_near.j0 k y0 y1 y2 y3 y4 y5) (br_near.j0 (k + 1) y0 y1 y2 y3 y4 y5)) ∧ (∀ y0 y1 y2 y3 y4 y5, LeO (br_near.l0 k y0 y1 y2 y3 y4 y5) (br_near.l0 (k + 1) y0 y1 y2 y3 y4 y5)) ∧ (∀ y0 y1 y2 y3 y4 y5 y6, LeO (br_near.j2 k y0 y1 y2 y3 y4 y5 y6) (br_near.j2 (k + 1) y0 y1 y2 y3 y4 y5 y6)) ∧ (∀ y0 y1 y2 y3 y4 y5 y6 y7, LeO (br_near.j3 k y0 y1 y2 y3 y4 y5 y6 y7) (br_near.j3 (k + 1) y0 y1 y2 y3 y4 y5 y6 y7)) ∧ (∀ y0 y1 y2 y3 y4 y5, LeO (br_near.j4 k y0 y1 y2 y3 y4 y5) (br_near.j4 (k + 1) y0 y1 y2 y3 y4 y5)) ∧ (∀ y0 y1 y2 y3 y4, LeO (br_near.j5 k y0 y1 y2 y3 y4) (br_near.j5 (k + 1) y0 y1 y2 y3 y4)) ∧ (∀ y0 y1 y2 y3 y4, LeO (br_near.j7 k y0 y1 y2 y3 y4) (br_near.j7 (k + 1) y0 y1 y2 y3 y4)) ∧ (∀ y0 y1 y2 y3 y4, LeO (br_near.j8 k y0 y1 y2 y3 y4) (br_near.j8 (k + 1) y0 y1 y2 y3 y4)) ∧ (∀ y0 y1 y2 y3 y4, LeO (br_near.l1 k y0 y1 y2 y3 y4) (br_near.l1 (k + 1) y0 y1 y2 y3 y4)) := by
  intro k
  induction k with
  | zero => exact ⟨fun _ _ _ _ _ _ r h => by simp [br_near.j0] at h, fun _ _ _ _ _ _ r h => by simp [br_near.l0] at h, fun _ _ _ _ _ _ _ r h => by simp [br_near.j2] at h, fun _ _ _ _ _ _ _ _ r h => by simp [br_near.j3] at h, fun _ _ _ _ _ _ r h => by simp [br_near.j4] at h, fun _ _ _ _ _ r h => by simp [br_near.j5] at h, fun _ _ _ _ _ r h => by simp [br_near.j7] at h, fun _ _ _ _ _ r h => by simp [br_near.j8] at h, fun _ _ _ _ _ r h => by simp [br_near.l1] at h⟩
  | succ k ih =>
    obtain ⟨ih0, ih1, ih2, ih3, ih4, ih5, ih6, ih7, ih8⟩ := ih
    refine ⟨?_, ?_, ?_, ?_, ?_, ?_, ?_, ?_, ?_⟩
    · intro y0 y1 y2 y3 y4 y5
      unfold br_near.j0
      repeat' first
      | (with_reducible exact ih0 _ _ _ _ _ _)
      | (with_reducible exact ih1 _ _ _ _ _ _)
      | (with_reducible exact ih2 _ _ _ _ _ _ _)
      | (with_reducible exact ih3 _ _ _ _ _ _ _ _)
      | (with_reducible exact ih4 _ _ _ _ _ _)
      | (with_reducible exact ih5 _ _ _ _ _)
      | (with_reducible exact ih6 _ _ _ _ _)
      | (with_reducible exact ih7 _ _ _ _ _)
      | (with_reducible exact ih8 _ _ _ _ _)
      | (with_reducible exact LeO.refl _)
      | (with_reducible exact LeO.none _)
      | (with_reducible refine LeO.ite ?_ ?_)
      | (with_reducible refine LeO.bind ?_ (fun _ => ?_))
      | exact ih0 _ _ _ _ _ _
      | exact ih1 _ _ _ _ _ _
      | exact ih2 _ _ _ _ _ _ _
      | exact ih3 _ _ _ _ _ _ _ _
      | exact ih4 _ _ _ _ _ _
      | exact ih5 _ _ _ _ _
      | exact ih6 _ _ _ _ _
      | exact ih7 _ _ _ _ _
      | exact ih8 _ _ _ _ _
      | exact LeO.none _
      | refine LeO.ite ?_ ?_
      | refine LeO.bind ?_ (fun _ => ?_)
    · intro y0 y1 y2 y3 y4 y5
      unfold br_near.l0
      repeat' first
      | (with_reducible exact ih0 _ _ _ _ _ _)
      | (with_reducible exact ih1 _ _ _ _ _ _)
      | (with_reducible exact ih2 _ _ _ _ _ _ _)
      | (with_reducible exact ih3 _ _ _ _ _ _ _ _)
      | (with_reducible exact ih4 _ _ _ _ _ _)
      | (with_reducible exact ih5 _ _ _ _ _)
      | (with_reducible exact ih6 _ _ _ _ _)
      | (with_reducible exact ih7 _ _ _ _ _)
      | (with_reducible exact ih8 _ _ _ _ _)
      | (with_reducible exact LeO.refl _)
      | (with_reducible exact LeO.none _)
      | (with_reducible refine LeO.ite ?_ ?_)
      | (with_reducible refine LeO.bind ?_ (fun _ => ?_))
      | exact ih0 _ _ _ _ _ _
      | exact ih1 _ _ _ _ _ _
      | exact ih2 _ _ _ _ _ _ _
      | exact ih3 _ _ _ _ _ _ _ _
      | exact ih4 _ _ _ _ _ _
      | exact ih5 _ _ _ _ _
      | exact ih6 _ _ _ _ _
      | exact ih7 _ _ _ _ _
      | exact ih8 _ _ _ _ _
      | exact LeO.none _
      | refine LeO.ite ?_ ?_
      | refine LeO.bind ?_ (fun _ => ?_)
    · intro y0 y1 y2 y3 y4 y5 y6
      unfold br_near.j2
      repeat' first
      | (with_reducible exact ih0 _ _ _ _ _ _)
      | (with_reducible exact ih1 _ _ _ _ _ _)
      | (with_reducible exact ih2 _ _ _ _ _ _ _)
      | (with_reducible exact ih3 _ _ _ _ _ _ _ _)
      | (with_reducible exact ih4 _ _ _ _ _ _)
      | (with_reducible exact ih5 _ _ _ _ _)
      | (with_reducible exact ih6 _ _ _ _ _)
      | (with_reducible exact ih7 _ _ _ _ _)
      | (with_reducible exact ih8 _ _ _ _ _)
      | (with_reducible exact LeO.refl _)
      | (with_reducible exact LeO.none _)
      | (with_reducible refine LeO.ite ?_ ?_)
      | (with_reducible refine LeO.bind ?_ (fun _ => ?_))
      | exact ih0 _ _ _ _ _ _
      | exact ih1 _ _ _ _ _ _
      | exact ih2 _ _ _ _ _ _ _
      | exact ih3 _ _ _ _ _ _ _ _
      | exact ih4 _ _ _ _ _ _
      | exact ih5 _ _ _ _ _
      | exact ih6 _ _ _ _ _
      | exact ih7 _ _ _ _ _
      | exact ih8 _ _ _ _ _
      | exact LeO.none _
      | refine LeO.ite ?_ ?_
      | refine LeO.bind ?_ (fun _ => ?_)
    · intro y0 y1 y2 y3 y4 y5 y6 y7
      unfold br_near.j3
      repeat' first
      | (with_reducible exact ih0 _ _ _ _ _ _)
      | (with_reducible exact ih1 _ _ _ _ _ _)
      | (with_reducible exact ih2 _ _ _ _ _ _ _)
      | (with_reducible exact ih3 _ _ _ _ _ _ _ _)
      | (with_reducible exact ih4 _ _ _ _ _ _)
      | (with_reducible exact ih5 _ _ _ _ _)
      | (with_reducible exact ih6 _ _ _ _ _)
      | (with_reducible exact ih7 _ _ _ _ _)
      | (with_reducible exact ih8 _ _ _ _ _)
      | (with_reducible exact LeO.refl _)
      | (with_reducible exact LeO.none _)
      | (with_reducible refine LeO.ite ?_ ?_)
      | (with_reducible refine LeO.bind ?_ (fun _ => ?_))
      | exact ih0 _ _ _ _ _ _
      | exact ih1 _ _ _ _ _ _
      | exact ih2 _ _ _ _ _ _ _
      | exact ih3 _ _ _ _ _ _ _ _
      | exact ih4 _ _ _ _ _ _
      | exact ih5 _ _ _ _ _
      | exact ih6 _ _ _ _ _
      | exact ih7 _ _ _ _ _
      | exact ih8 _ _ _ _ _
      | exact LeO.none _
      | refine LeO.ite ?_ ?_
      | refine LeO.bind ?_ (fun _ => ?_)
    · intro y0 y1 y2 y3 y4 y5
      unfold br_near.j4
      repeat' first
      | (with_reducible exact ih0 _ _ _ _ _ _)
      | (with_reducible exact ih1 _ _ _ _ _ _)
      | (with_reducible exact ih2 _ _ _ _ _ _ _)
      | (with_reducible exact ih3 _ _ _ _ _ _ _ _)
      | (with_reducible exact ih4 _ _ _ _ _ _)
      | (with_reducible exact ih5 _ _ _ _ _)
      | (with_reducible exact ih6 _ _ _ _ _)
      | (with_reducible exact ih7 _ _ _ _ _)
      | (with_reducible exact ih8 _ _ _ _ _)
      | (with_reducible exact LeO.refl _)
      | (with_reducible exact LeO.none _)
      | (with_reducible refine LeO.ite ?_ ?_)
      | (with_reducible refine LeO.bind ?_ (fun _ => ?_))
      | exact ih0 _ _ _ _ _ _
      | exact ih1 _ _ _ _ _ _
      | exact ih2 _ _ _ _ _ _ _
      | exact ih3 _ _ _ _ _ _ _ _
      | exact ih4 _ _ _ _ _ _
      | exact ih5 _ _ _ _ _
      | exact ih6 _ _ _ _ _
      | exact ih7 _ _ _ _ _
      | exact ih8 _ _ _ _ _
      | exact LeO.none _
      | refine LeO.ite ?_ ?_
      | refine LeO.bind ?_ (fun _ => ?_)
    · intro y0 y1 y2 y3 y4
      unfold br_near.j5
      repeat' first
      | (with_reducible exact ih0 _ _ _ _ _ _)
      | (with_reducible exact ih1 _ _ _ _ _ _)
      | (with_reducible exact ih2 _ _ _ _ _ _ _)
      | (with_reducible exact ih3 _ _ _ _ _ _ _ _)
      | (with_reducible exact ih4 _ _ _ _ _ _)
      | (with_reducible exact ih5 _ _ _ _ _)
      | (with_reducible exact ih6 _ _ _ _ _)
      | (with_reducible exact ih7 _ _ _ _ _)
      | (with_reducible exact ih8 _ _ _ _ _)
      | (with_reducible exact LeO.refl _)
      | (with_reducible exact LeO.none _)
      | (with_reducible refine LeO.ite ?_ ?_)
      | (with_reducible refine LeO.bind ?_ (fun _ => ?_))
      | exact ih0 _ _ _ _ _ _
      | exact ih1 _ _ _ _ _ _
      | exact ih2 _ _ _ _ _ _ _
      | exact ih3 _ _ _ _ _ _ _ _
      | exact ih4 _ _ _ _ _ _
      | exact ih5 _ _ _ _ _
      | exact ih6 _ _ _ _ _
      | exact ih7 _ _ _ _ _
      | exact ih8 _ _ _ _ _
      | exact LeO.none _
      | refine LeO.ite ?_ ?_
      | refine LeO.bind ?_ (fun _ => ?_)
    · intro y0 y1 y2 y3 y4
      unfold br_near.j7
      repeat' first
      | (with_reducible exact ih0 _ _ _ _ _ _)
      | (with_reducible exact ih1 _ _ _ _ _ _)
      | (with_reducible exact ih2 _ _ _ _ _ _ _)
      | (with_reducible exact ih3 _ _ _ _ _ _ _ _)
      | (with_reducible exact ih4 _ _ _ _ _ _)
      | (with_reducible exact ih5 _ _ _ _ _)
      | (with_reducible exact ih6 _ _ _ _ _)
      | (with_reducible exact ih7 _ _ _ _ _)
      | (with_reducible exact ih8 _ _ _ _ _)
      | (with_reducible exact LeO.refl _)
      | (with_reducible exact LeO.none _)
      | (with_reducible refine LeO.ite ?_ ?_)
      | (with_reducible refine LeO.bind ?_ (fun _ => ?_))
      | exact ih0 _ _ _ _ _ _
      | exact ih1 _ _ _ _ _ _
      | exact ih2 _ _ _ _ _ _ _
      | exact ih3 _ _ _ _ _ _ _ _
      | exact ih4 _ _ _ _ _ _
      | exact ih5 _ _ _ _ _
      | exact ih6 _ _ _ _ _
      | exact ih7 _ _ _ _ _
      | exact ih8 _ _ _ _ _
      | exact LeO.none _
      | refine LeO.ite ?_ ?_
      | refine LeO.bind ?_ (fun _ => ?_)
    · intro y0 y1 y2 y3 y4
      unfold br_near.j8
      repeat' first
      | (with_reducible exact ih0 _ _ _ _ _ _)
      | (with_reducible exact ih1 _ _ _ _ _ _)
      | (with_reducible exact ih2 _ _ _ _ _ _ _)
      | (with_reducible exact ih3 _ _ _ _ _ _ _ _)
      | (with_reducible exact ih4 _ _ _ _ _ _)
      | (with_reducible exact ih5 _ _ _ _ _)
      | (with_reducible exact ih6 _ _ _ _ _)
      | (with_reducible exact ih7 _ _ _ _ _)
      | (with_reducible exact ih8 _ _ _ _ _)
      | (with_reducible exact LeO.refl _)
      | (with_reducible exact LeO.none _)
      | (with_reducible refine LeO.ite ?_ ?_)
      | (with_reducible refine LeO.bind ?_ (fun _ => ?_))
      | exact ih0 _ _ _ _ _ _
      | exact ih1 _ _ _ _ _ _
      | exact ih2 _ _ _ _ _ _ _
      | exact ih3 _ _ _ _ _ _ _ _
      | exact ih4 _ _ _ _ _ _
      | exact ih5 _ _ _ _ _
      | exact ih6 _ _ _ _ _
      | exact ih7 _ _ _ _ _
      | exact ih8 _ _ _ _ _
      | exact LeO.none _
      | refine LeO.ite ?_ ?_
      | refine LeO.bind ?_ (fun _ => ?_)
    · intro y0 y1 y2 y3 y4
      unfold br_near.l1
      repeat' first
      | (with_reducible exact ih0 _ _ _ _ _ _)
      | (with_reducible exact ih1 _ _ _ _ _ _)
      | (with_reducible exact ih2 _ _ _ _ _ _ _)
      | (with_reducible exact ih3 _ _ _ _ _ _ _ _)
      | (with_reducible exact ih4 _ _ _ _ _ _)
      | (with_reducible exact ih5 _ _ _ _ _)
      | (with_reducible exact ih6 _ _ _ _ _)
      | (with_reducible exact ih7 _ _ _ _ _)
      | (with_reducible exact ih8 _ _ _ _ _)
      | (with_reducible exact LeO.refl _)
      | (with_reducible exact LeO.none _)
      | (with_reducible refine LeO.ite ?_ ?_)
      | (with_reducible refine LeO.bind ?_ (fun _ => ?_))
      | exact ih0 _ _ _ _ _ _
      | exact ih1 _ _ _ _ _ _
      | exact ih2 _ _ _ _ _ _ _
      | exact ih3 _ _ _ _ _ _ _ _
      | exact ih4 _ _ _ _ _ _
      | exact ih5 _ _ _ _ _
      | exact ih6 _ _ _ _ _
      | exact ih7 _ _ _ _ _
      | exact ih8 _ _ _ _ _
      | exact LeO.none _
      | refine LeO.ite ?_ ?_
      | refine LeO.bind ?_ (fun _ => ?_)
theorem br_near.mono : ∀ a0 a1 a2 a3 a4 a5 k, LeO (br_near.f k a0 a1 a2 a3 a4 a5) (br_near.f (k + 1) a0 a1 a2 a3 a4 a5) := by
  intro a0 a1 a2 a3 a4 a5 k
  obtain ⟨ih0, ih1, ih2, ih3, ih4, ih5, ih6, ih7, ih8⟩ := br_near.mono_l k
  unfold br_near.f
  repeat' first
      | (with_reducible exact ih0 _ _ _ _ _ _)
      | (with_reducible exact ih1 _ _ _ _ _ _)
      | (with_reducible exact ih2 _ _ _ _ _ _ _)
      | (with_reducible exact ih3 _ _ _ _ _ _ _ _)
      | (with_reducible exact ih4 _ _ _ _ _ _)
      | (with_reducible exact ih5 _ _ _ _ _)
      | (with_reducible exact ih6 _ _ _ _ _)
      | (with_reducible exact ih7 _ _ _ _ _)
      | (with_reducible exact ih8 _ _ _ _ _)
      | (with_reducible exact LeO.refl _)
      | (with_reducible exact LeO.none _)
      | (with_reducible refine LeO.ite ?_ ?_)
      | (with_reducible refine LeO.bind ?_ (fun _ => ?_))
      | exact ih0 _ _ _ _ _ _
      | exact ih1 _ _ _ _ _ _
      | exact ih2 _ _ _ _ _ _ _
      | exact ih3 _ _ _ _ _ _ _ _
      | exact ih4 _ _ _ _ _ _
      | exact ih5 _ _ _ _ _
      | exact ih6 _ _ _ _ _
      | exact ih7 _ _ _ _ _
      | exact ih8 _ _ _ _ _
      | exact LeO.none _
      | refine LeO.ite ?_ ?_
      | refine LeO.bind ?_ (fun _ => ?_)
end Go.Proofs.Ytjfmomogidgbpaa.PFl
namespace Go.Proofs.Ytjfmomogidgbpaa.PFl
open Go.RowKit Go.Proofs.YtjfmomogidgbpaaW.PrintWords Go.Proofs.YtjfmomogidgbpaaW.PrintLast Go.Proofs.YtjfmomogidgbpaaW.PrintMore
attribute [local go_sem] max2_int min2_int max_two min_two max_three min_three max_four min_four
set_option linter.unusedVariables false
set_option linter.unusedSimpArgs false
def br_sign.f (a0 : Int) : Option (Int) := if a0 = 32 then (some 2147483648) else (some 9223372036854775808)
mutual
def br_Round.j0 : Nat → Int → Bool → Int → Int → Bool → Bool → Option (Int × Int)
  | 0, _, _, _, _, _, _ => none
  | k + 1, x0, x1, x2, x3, x4, x28 => if x28 = true then (some (0, 1)) else (if x0 = 64 then (br_Round.j1 k x0 x1 x2 x3 x4 52 (-1074) 9218868437227405312) else (br_Round.j1 k x0 x1 x2 x3 x4 23 (-149) 2139095040))
def br_Round.j1 : Nat → Int → Bool → Int → Int → Bool → Int → Int → Int → Option (Int × Int)
  | 0, _, _, _, _, _, _, _, _ => none
  | k + 1, x0, x1, x2, x3, x4, x12, x13, x14 => if x2 > 0 then ((br_near.f k x2 x3 x4 x12 x13 x14).bind fun t299 => (if x1 = true then ((br_sign.f x0).bind fun t300 => (some (IntKind.u64.wrap (t299 + t300), 0))) else (some (t299, 0)))) else (if x1 = true then ((br_sign.f x0).bind fun t301 => (some (IntKind.u64.wrap (0 + t301), 0))) else (some (0, 0)))
end
def br_Round.f (k : Nat) (a0 : Int) (a1 : Bool) (a2 : Int) (a3 : Int) (a4 : Bool) : Option (Int × Int) := if a0 = 32 then (if a4 = true then (br_Round.j0 k a0 a1 a2 a3 a4 (decide (a2 < 288230376151711744))) else (br_Round.j0 k a0 a1 a2 a3 a4 false)) else (if a0 = 64 then (if a4 = true then (br_Round.j0 k a0 a1 a2 a3 a4 (decide (a2 < 288230376151711744))) else (br_Round.j0 k a0 a1 a2 a3 a4 false)) else (br_Round.j0 k a0 a1 a2 a3 a4 true))
theorem br_Round.mono_l : ∀ k, (∀ y0 y1 y2 y3 y4 y5, LeO (br_Round.j0 k y0 y1 y2 y3 y4 y5) (br_Round.j0 (k + 1) y0 y1 y2 y3 y4 y5)) ∧ (∀ y0 y1 y2 y3 y4 y5 y6 y7, LeO (br_Round.j1 k y0 y1 y2 y3 y4 y5 y6 y7) (br_Round.j1 (k + 1) y0 y1 y2 y3 y4 y5 y6 y7)) := by
  intro k
  induction k with
  | zero => exact ⟨fun _ _ _ _ _ _ r h => by simp [br_Round.j0] at h, fun _ _ _ _ _ _ _ _ r h => by simp [br_Round.j1] at h⟩
  | succ k ih =>
    obtain ⟨ih0, ih1⟩ := ih
    refine ⟨?_, ?_⟩
    · intro y0 y1 y2 y3 y4 y5
      unfold br_Round.j0
      repeat' first
      | (with_reducible exact ih0 _ _ _ _ _ _)
      | (with_reducible exact ih1 _ _ _ _ _ _ _ _)
      | (with_reducible exact br_near.mono _ _ _ _ _ _ _)
      | (with_reducible exact LeO.refl _)
      | (with_reducible exact LeO.none _)
      | (with_reducible refine LeO.ite ?_ ?_)
      | (with_reducible refine LeO.bind ?_ (fun _ => ?_))
      | exact ih0 _ _ _ _ _ _
      | exact ih1 _ _ _ _ _ _ _ _
      | exact br_near.mono _ _ _ _ _ _ _
      | exact LeO.none _
      | refine LeO.ite ?_ ?_
      | refine LeO.bind ?_ (fun _ => ?_)
    · intro y0 y1 y2 y3 y4 y5 y6 y7
      unfold br_Round.j1
      repeat' first
      | (with_reducible exact ih0 _ _ _ _ _ _)
      | (with_reducible exact ih1 _ _ _ _ _ _ _ _)
      | (with_reducible exact br_near.mono _ _ _ _ _ _ _)
      | (with_reducible exact LeO.refl _)
      | (with_reducible exact LeO.none _)
      | (with_reducible refine LeO.ite ?_ ?_)
      | (with_reducible refine LeO.bind ?_ (fun _ => ?_))
      | exact ih0 _ _ _ _ _ _
      | exact ih1 _ _ _ _ _ _ _ _
      | exact br_near.mono _ _ _ _ _ _ _
      | exact LeO.none _
      | refine LeO.ite ?_ ?_
      | refine LeO.bind ?_ (fun _ => ?_)
theorem br_Round.mono : ∀ a0 a1 a2 a3 a4 k, LeO (br_Round.f k a0 a1 a2 a3 a4) (br_Round.f (k + 1) a0 a1 a2 a3 a4) := by
  intro a0 a1 a2 a3 a4 k
  obtain ⟨ih0, ih1⟩ := br_Round.mono_l k
  unfold br_Round.f
  repeat' first
      | (with_reducible exact ih0 _ _ _ _ _ _)
      | (with_reducible exact ih1 _ _ _ _ _ _ _ _)
      | (with_reducible exact br_near.mono _ _ _ _ _ _ _)
      | (with_reducible exact LeO.refl _)
      | (with_reducible exact LeO.none _)
      | (with_reducible refine LeO.ite ?_ ?_)
      | (with_reducible refine LeO.bind ?_ (fun _ => ?_))
      | exact ih0 _ _ _ _ _ _
      | exact ih1 _ _ _ _ _ _ _ _
      | exact br_near.mono _ _ _ _ _ _ _
      | exact LeO.none _
      | refine LeO.ite ?_ ?_
      | refine LeO.bind ?_ (fun _ => ?_)
def bl_FloatsRounds.f (k : Nat) (a0 : Int) (a1 : Bool) (a2 : Int) (a3 : Int) (a4 : Bool) : Option (Bool) := (bl_awake.f k).bind fun t302 => (if t302 = true then ((floats_Round.f k a0 a1 a2 a3 a4).bind fun bt303 => ((br_Round.f k a0 a1 a2 a3 a4).bind fun bt305 => (if bt303.1 = bt305.1 then (some (bt303.2 == bt305.2)) else (some false)))) else (some false))
theorem bl_FloatsRounds.mono : ∀ a0 a1 a2 a3 a4 k, LeO (bl_FloatsRounds.f k a0 a1 a2 a3 a4) (bl_FloatsRounds.f (k + 1) a0 a1 a2 a3 a4) := by
  intro a0 a1 a2 a3 a4 k
  unfold bl_FloatsRounds.f
  repeat' first
      | (with_reducible exact bl_awake.mono _)
      | (with_reducible exact br_Round.mono _ _ _ _ _ _)
      | (with_reducible exact floats_Round.mono _ _ _ _ _ _)
      | (with_reducible exact LeO.refl _)
      | (with_reducible exact LeO.none _)
      | (with_reducible refine LeO.ite ?_ ?_)
      | (with_reducible refine LeO.bind ?_ (fun _ => ?_))
      | exact bl_awake.mono _
      | exact br_Round.mono _ _ _ _ _ _
      | exact floats_Round.mono _ _ _ _ _ _
      | exact LeO.none _
      | refine LeO.ite ?_ ?_
      | refine LeO.bind ?_ (fun _ => ?_)
/-- THE ONE PURE STATEMENT of bl_FloatsRounds: yours. -/
def bl_FloatsRounds.Pure : Prop := ∀ (a0 : Int) (a1 : Bool) (a2 : Int) (a3 : Int) (a4 : Bool), (Lit.int .i64 a0).wf = true → (Lit.int .u64 a2).wf = true → (Lit.int .i64 a3).wf = true → ∃ k, bl_FloatsRounds.f k a0 a1 a2 a3 a4 = some true
def bl_FloatsTurns.j0 : Nat → Int → Int → Int → Int → Option (Bool)
  | 0, _, _, _, _ => none
  | k + 1, x0, x1, x2, x3 => (floats_Bin.f k x0 1 x1 x2).bind fun bt308 => ((floats_Bin.f k x0 1 x2 x1).bind fun bt310 => ((floats_Bin.f k x0 3 x1 x2).bind fun bt312 => ((floats_Bin.f k x0 3 x2 x1).bind fun bt314 => ((floats_Un.f k x0 2 x2).bind fun bt316 => ((floats_Un.f k x0 2 bt316.1).bind fun bt318 => ((floats_Bin.f k x0 2 x1 bt316.1).bind fun bt320 => ((floats_Round.f k x0 false (IntKind.u64.wrap (Int.tmod x3 4096)) 0 false).bind fun bt322 => ((floats_Bin.f k x0 3 bt322.1 bt322.1).bind fun bt324 => ((floats_Un.f k x0 3 bt324.1).bind fun bt326 => ((floats_Un.f k x0 5 x1).bind fun bt328 => ((floats_Un.f k x0 4 x1).bind fun bt330 => ((floats_Rel.f k x0 5 bt328.1 x1).bind fun bt332 => ((floats_Rel.f k x0 5 x1 bt330.1).bind fun bt334 => ((floats_Kind.f x0 x1).bind fun t336 => ((floats_Bin.f k x0 7 x2 x2).bind fun bt337 => (if bt308.1 = bt310.1 then (if bt312.1 = bt314.1 then (if bt320.1 = bt308.1 then (if bt318.1 = bt337.1 then (if bt326.1 = bt322.1 then (if (bt332.1 == (!(t336 == 4))) = true then (some (bt334.1 == (!(t336 == 4)))) else (some false)) else (some false)) else (some false)) else (some false)) else (some false)) else (some false)))))))))))))))))
def bl_FloatsTurns.f (k : Nat) (a0 : Int) (a1 : Int) (a2 : Int) (a3 : Int) : Option (Bool) := (bl_awake.f k).bind fun t307 => (if t307 = true then (if a0 = 32 then (bl_FloatsTurns.j0 k a0 a1 a2 a3) else (bl_FloatsTurns.j0 k 64 a1 a2 a3)) else (some false))
theorem bl_FloatsTurns.mono_l : ∀ k, (∀ y0 y1 y2 y3, LeO (bl_FloatsTurns.j0 k y0 y1 y2 y3) (bl_FloatsTurns.j0 (k + 1) y0 y1 y2 y3)) := by
  intro k
  induction k with
  | zero => exact fun _ _ _ _ r h => by simp [bl_FloatsTurns.j0] at h
  | succ k ih =>
    have ih0 := ih
    · intro y0 y1 y2 y3
      unfold bl_FloatsTurns.j0
      repeat' first
      | (with_reducible exact ih0 _ _ _ _)
      | (with_reducible exact bl_awake.mono _)
      | (with_reducible exact floats_Bin.mono _ _ _ _ _)
      | (with_reducible exact floats_Rel.mono _ _ _ _ _)
      | (with_reducible exact floats_Round.mono _ _ _ _ _ _)
      | (with_reducible exact floats_Un.mono _ _ _ _)
      | (with_reducible exact LeO.refl _)
      | (with_reducible exact LeO.none _)
      | (with_reducible refine LeO.ite ?_ ?_)
      | (with_reducible refine LeO.bind ?_ (fun _ => ?_))
      | exact ih0 _ _ _ _
      | exact bl_awake.mono _
      | exact floats_Bin.mono _ _ _ _ _
      | exact floats_Rel.mono _ _ _ _ _
      | exact floats_Round.mono _ _ _ _ _ _
      | exact floats_Un.mono _ _ _ _
      | exact LeO.none _
      | refine LeO.ite ?_ ?_
      | refine LeO.bind ?_ (fun _ => ?_)
theorem bl_FloatsTurns.mono : ∀ a0 a1 a2 a3 k, LeO (bl_FloatsTurns.f k a0 a1 a2 a3) (bl_FloatsTurns.f (k + 1) a0 a1 a2 a3) := by
  intro a0 a1 a2 a3 k
  have ih0 := bl_FloatsTurns.mono_l k
  unfold bl_FloatsTurns.f
  repeat' first
      | (with_reducible exact ih0 _ _ _ _)
      | (with_reducible exact bl_awake.mono _)
      | (with_reducible exact floats_Bin.mono _ _ _ _ _)
      | (with_reducible exact floats_Rel.mono _ _ _ _ _)
      | (with_reducible exact floats_Round.mono _ _ _ _ _ _)
      | (with_reducible exact floats_Un.mono _ _ _ _)
      | (with_reducible exact LeO.refl _)
      | (with_reducible exact LeO.none _)
      | (with_reducible refine LeO.ite ?_ ?_)
      | (with_reducible refine LeO.bind ?_ (fun _ => ?_))
      | exact ih0 _ _ _ _
      | exact bl_awake.mono _
      | exact floats_Bin.mono _ _ _ _ _
      | exact floats_Rel.mono _ _ _ _ _
      | exact floats_Round.mono _ _ _ _ _ _
      | exact floats_Un.mono _ _ _ _
      | exact LeO.none _
      | refine LeO.ite ?_ ?_
      | refine LeO.bind ?_ (fun _ => ?_)
/-- THE ONE PURE STATEMENT of bl_FloatsTurns: yours. -/
def bl_FloatsTurns.Pure : Prop := ∀ (a0 : Int) (a1 : Int) (a2 : Int) (a3 : Int), (Lit.int .i64 a0).wf = true → (Lit.int .u64 a1).wf = true → (Lit.int .u64 a2).wf = true → (Lit.int .u32 a3).wf = true → ∃ k, bl_FloatsTurns.f k a0 a1 a2 a3 = some true
-- NOT PRINTED: function 71 (math_Float32frombits)
-- NOT PRINTED: function 55 (br_F32)
-- NOT PRINTED: function 80 (math_Float64frombits)
-- NOT PRINTED: function 69 (br_F64)
-- NOT PRINTED: function 51 (br_value)
-- NOT PRINTED: function 23 (br_Rel)
-- NOT PRINTED: function 5 (bl_FloatsStand)
def br_Canonical.f (a0 : Int) : Option (Int) := if a0 = 32 then (some 2143289344) else (if a0 = 64 then (some 9221120237041090560) else (some 0))
def br_cut.f (a0 : Int) (a1 : Int) : Option (Int) := if a0 = 32 then (some (Int.tmod a1 4294967296)) else (some a1)
-- NOT PRINTED: function 70 (math_Float64bits)
-- NOT PRINTED: function 53 (br_B64)
-- NOT PRINTED: function 54 (br_worked)
-- NOT PRINTED: function 72 (math_Float32bits)
-- NOT PRINTED: function 56 (br_B32)
-- NOT PRINTED: function 24 (br_Bin)
-- NOT PRINTED: function 25 (br_Kind)
-- NOT PRINTED: function 6 (bl_FloatsBin)
-- NOT PRINTED: function 7 (bl_FloatsSums)
-- NOT PRINTED: function 8 (bl_FloatsProducts)
-- NOT PRINTED: function 9 (bl_FloatsQuotients)
-- NOT PRINTED: function 10 (bl_FloatsEnds)
end Go.Proofs.Ytjfmomogidgbpaa.PFl
namespace Go.Proofs.Ytjfmomogidgbpaa.PFl
open Go.RowKit Go.Proofs.YtjfmomogidgbpaaW.PrintWords Go.Proofs.YtjfmomogidgbpaaW.PrintLast Go.Proofs.YtjfmomogidgbpaaW.PrintMore
attribute [local go_sem] max2_int min2_int max_two min_two max_three min_three max_four min_four
set_option linter.unusedVariables false
set_option linter.unusedSimpArgs false
def floats_Parts.j0 : Nat → Int → Int → Bool → Option (Bool × Int × Int × Int)
  | 0, _, _, _ => none
  | k + 1, x0, x1, x19 => if x19 = true then (some (false, 0, 0, 1)) else ((floats_of.f x0).bind fun bt360 => ((ff_parts.f bt360.1 bt360.2 x1).bind fun bt362 => ((floats_of.f x0).bind fun bt364 => ((ff_neg.f bt364.1 bt364.2 x1).bind fun t366 => (some (t366, bt362.1, bt362.2, 0))))))
def floats_Parts.f (k : Nat) (a0 : Int) (a1 : Int) : Option (Bool × Int × Int × Int) := (floats_Kind.f a0 a1).bind fun t359 => (if t359 = 1 then (floats_Parts.j0 k a0 a1 false) else (floats_Parts.j0 k a0 a1 (t359 != 2)))
theorem floats_Parts.mono_l : ∀ k, (∀ y0 y1 y2, LeO (floats_Parts.j0 k y0 y1 y2) (floats_Parts.j0 (k + 1) y0 y1 y2)) := by
  intro k
  induction k with
  | zero => exact fun _ _ _ r h => by simp [floats_Parts.j0] at h
  | succ k ih =>
    have ih0 := ih
    · intro y0 y1 y2
      unfold floats_Parts.j0
      repeat' first
      | (with_reducible exact ih0 _ _ _)
      | (with_reducible exact LeO.refl _)
      | (with_reducible exact LeO.none _)
      | (with_reducible refine LeO.ite ?_ ?_)
      | (with_reducible refine LeO.bind ?_ (fun _ => ?_))
      | exact ih0 _ _ _
      | exact LeO.none _
      | refine LeO.ite ?_ ?_
      | refine LeO.bind ?_ (fun _ => ?_)
theorem floats_Parts.mono : ∀ a0 a1 k, LeO (floats_Parts.f k a0 a1) (floats_Parts.f (k + 1) a0 a1) := by
  intro a0 a1 k
  have ih0 := floats_Parts.mono_l k
  unfold floats_Parts.f
  repeat' first
      | (with_reducible exact ih0 _ _ _)
      | (with_reducible exact LeO.refl _)
      | (with_reducible exact LeO.none _)
      | (with_reducible refine LeO.ite ?_ ?_)
      | (with_reducible refine LeO.bind ?_ (fun _ => ?_))
      | exact ih0 _ _ _
      | exact LeO.none _
      | refine LeO.ite ?_ ?_
      | refine LeO.bind ?_ (fun _ => ?_)
-- NOT PRINTED: function 29 (br_Parts)
-- NOT PRINTED: function 11 (bl_FloatsParts)
-- NOT PRINTED: function 73 (math_sqrt)
-- NOT PRINTED: function 58 (math_Sqrt)
-- NOT PRINTED: function 74 (math_archCeil)
-- NOT PRINTED: function 76 (math_archFloor)
-- NOT PRINTED: function 81 (math_IsNaN)
-- NOT PRINTED: function 84 (math_Abs)
-- NOT PRINTED: function 82 (math_IsInf)
-- NOT PRINTED: function 78 (math_archTrunc)
-- NOT PRINTED: function 85 (math_Copysign)
-- NOT PRINTED: function 79 (math_trunc)
-- NOT PRINTED: function 61 (math_Trunc)
-- NOT PRINTED: function 83 (math_Modf)
-- NOT PRINTED: function 77 (math_floor)
-- NOT PRINTED: function 60 (math_Floor)
-- NOT PRINTED: function 75 (math_ceil)
-- NOT PRINTED: function 59 (math_Ceil)
-- NOT PRINTED: function 62 (math_RoundToEven)
-- NOT PRINTED: function 30 (br_Un)
-- NOT PRINTED: function 12 (bl_FloatsAll)
-- NOT PRINTED: function 13 (bl_FloatsOne)
-- NOT PRINTED: function 14 (bl_FloatsRoots)
-- NOT PRINTED: function 15 (bl_FloatsWhole)
end Go.Proofs.Ytjfmomogidgbpaa.PFl
namespace Go.Proofs.Ytjfmomogidgbpaa.Ref
set_option linter.unusedVariables false
set_option linter.unusedSimpArgs false
open Go.RowKit Go.Proofs.YtjfmomogidgbpaaW.PrintWords Go.Proofs.Ytjfmomogidgbpaa.Fl
end Go.Proofs.Ytjfmomogidgbpaa.Ref
namespace Go.Proofs.Ytjfmomogidgbpaa.PFl
open Go.RowKit Go.Proofs.YtjfmomogidgbpaaW.PrintWords Go.Proofs.Ytjfmomogidgbpaa.Fl Go.Proofs.Ytjfmomogidgbpaa.Ref
def br_Kind.f (a0 : Int) (a1 : Int) : Option Int := some (kindF a0 a1)
def br_Bin.f (a0 : Int) (a1 : Int) (a2 : Int) (a3 : Int) : Option (Int × Int) :=
  if 0 ≤ a2 ∧ a2 < 18446744073709551616 ∧ 0 ≤ a3 ∧ a3 < 18446744073709551616 then some (binF a0 a1 a2 a3) else none
def br_Un.f (a0 : Int) (a1 : Int) (a2 : Int) : Option (Int × Int) :=
  if 0 ≤ a2 ∧ a2 < 18446744073709551616 then some (unF a0 a1 a2) else none
theorem br_Un.calls (a0 : Int) (a1 : Int) (a2 : Int) (r1 : Int) (r2 : Int) (w : World) (h : br_Un.f a0 a1 a2 = some (r1, r2)) :
    Calls Try.prog 30 #[.int .i64 a0, .int .i64 a1, .int .u64 a2] w fun e w' => e = .returned (.tuple #[.int .u64 r1, .int .i64 r2]) ∧ Below w.heap.size w w' := by
  unfold br_Un.f at h
  split at h
  · rename_i hb
    have e := Option.some.inj h
    refine (un_all a0 a1 a2 w hb.1 hb.2).mono fun e' w' hq => ?_
    have := hq.out
    rw [e] at this
    exact this
  · cases h
def br_Rel.f (a0 : Int) (a1 : Int) (a2 : Int) (a3 : Int) : Option (Bool × Int) := some (relF a0 a1 a2 a3)
theorem br_Rel.calls (a0 : Int) (a1 : Int) (a2 : Int) (a3 : Int) (r1 : Bool) (r2 : Int) (w : World) (h : br_Rel.f a0 a1 a2 a3 = some (r1, r2)) :
    Calls Try.prog 23 #[.int .i64 a0, .int .i64 a1, .int .u64 a2, .int .u64 a3] w fun e w' => e = .returned (.tuple #[.bool r1, .int .i64 r2]) ∧ Below w.heap.size w w' := by
  have e := Option.some.inj h
  refine (rel_all a0 a1 a2 a3 w).mono fun e' w' hq => ?_
  have := hq.out
  rw [e] at this
  exact this
end Go.Proofs.Ytjfmomogidgbpaa.PFl
namespace Go.Proofs.Ytjfmomogidgbpaa.PFm
open Go.RowKit Go.Proofs.Ytjfmomogidgbpaa.PFl Go.Proofs.YtjfmomogidgbpaaW.PrintWords Go.Proofs.YtjfmomogidgbpaaW.PrintLast Go.Proofs.YtjfmomogidgbpaaW.PrintMore
attribute [local go_sem] max2_int min2_int max_two min_two max_three min_three max_four min_four
set_option linter.unusedVariables false
set_option linter.unusedSimpArgs false
def errW : Option Int → Value
  | none => .nilIface
  | some c => .iface 0 (.int .i64 c)
theorem errW_none : errW none = .nilIface := rfl
theorem errW_some (c : Int) : errW (some c) = .iface 0 (.int .i64 c) := rfl
-- the values' own types
end Go.Proofs.Ytjfmomogidgbpaa.PFm
namespace Go.Proofs.Ytjfmomogidgbpaa.PFm
open Go.RowKit Go.Proofs.Ytjfmomogidgbpaa.PFl Go.Proofs.YtjfmomogidgbpaaW.PrintWords Go.Proofs.YtjfmomogidgbpaaW.PrintLast Go.Proofs.YtjfmomogidgbpaaW.PrintMore
attribute [local go_sem] max2_int min2_int max_two min_two max_three min_three max_four min_four
set_option linter.unusedVariables false
set_option linter.unusedSimpArgs false
-- given: function 20 (floats_Un)
-- given: function 21 (floats_Rel)
-- given: function 22 (floats_Kind)
-- given: function 26 (floats_Canonical)
-- given: function 16 (bl_awake)
-- NOT PRINTED: function 71 (math_Float32frombits)
-- NOT PRINTED: function 55 (br_F32)
-- NOT PRINTED: function 80 (math_Float64frombits)
-- NOT PRINTED: function 69 (br_F64)
-- NOT PRINTED: function 51 (br_value)
-- given: function 23 (br_Rel)
mutual
def bl_FloatsStand.l0 : Nat → Int → Int → Int → Option (Bool)
  | 0, _, _, _ => none
  | k + 1, x0, x1, x6 => if x6 ≤ 64 then (bl_FloatsStand.l1 k x0 x1 x6 1) else (some true)
def bl_FloatsStand.l1 : Nat → Int → Int → Int → Int → Option (Bool)
  | 0, _, _, _, _ => none
  | k + 1, x0, x1, x6, x7 => if x7 ≤ 6 then ((floats_Rel.f k x6 x7 x0 x1).bind fun bt231 => ((br_Rel.f x6 x7 x0 x1).bind fun bt233 => (if (bt231.1 != bt233.1) = true then (some false) else (if bt231.2 = bt233.2 then (bl_FloatsStand.l1 k x0 x1 x6 (wrap64 (x7 + 1))) else (some false))))) else (bl_FloatsStand.l0 k x0 x1 (wrap64 (x6 + 32)))
end
def bl_FloatsStand.f (k : Nat) (a0 : Int) (a1 : Int) : Option (Bool) := (bl_awake.f k).bind fun t230 => (if t230 = true then (bl_FloatsStand.l0 k a0 a1 32) else (some false))
theorem bl_FloatsStand.mono_l : ∀ k, (∀ y0 y1 y2, LeO (bl_FloatsStand.l0 k y0 y1 y2) (bl_FloatsStand.l0 (k + 1) y0 y1 y2)) ∧ (∀ y0 y1 y2 y3, LeO (bl_FloatsStand.l1 k y0 y1 y2 y3) (bl_FloatsStand.l1 (k + 1) y0 y1 y2 y3)) := by
  intro k
  induction k with
  | zero => exact ⟨fun _ _ _ r h => by simp [bl_FloatsStand.l0] at h, fun _ _ _ _ r h => by simp [bl_FloatsStand.l1] at h⟩
  | succ k ih =>
    obtain ⟨ih0, ih1⟩ := ih
    refine ⟨?_, ?_⟩
    · intro y0 y1 y2
      unfold bl_FloatsStand.l0
      repeat' first
      | (with_reducible exact ih0 _ _ _)
      | (with_reducible exact ih1 _ _ _ _)
      | (with_reducible exact bl_awake.mono _)
      | (with_reducible exact floats_Rel.mono _ _ _ _ _)
      | (with_reducible exact LeO.refl _)
      | (with_reducible exact LeO.none _)
      | (with_reducible refine LeO.ite ?_ ?_)
      | (with_reducible refine LeO.bind ?_ (fun _ => ?_))
      | exact ih0 _ _ _
      | exact ih1 _ _ _ _
      | exact bl_awake.mono _
      | exact floats_Rel.mono _ _ _ _ _
      | exact LeO.none _
      | refine LeO.ite ?_ ?_
      | refine LeO.bind ?_ (fun _ => ?_)
    · intro y0 y1 y2 y3
      unfold bl_FloatsStand.l1
      repeat' first
      | (with_reducible exact ih0 _ _ _)
      | (with_reducible exact ih1 _ _ _ _)
      | (with_reducible exact bl_awake.mono _)
      | (with_reducible exact floats_Rel.mono _ _ _ _ _)
      | (with_reducible exact LeO.refl _)
      | (with_reducible exact LeO.none _)
      | (with_reducible refine LeO.ite ?_ ?_)
      | (with_reducible refine LeO.bind ?_ (fun _ => ?_))
      | exact ih0 _ _ _
      | exact ih1 _ _ _ _
      | exact bl_awake.mono _
      | exact floats_Rel.mono _ _ _ _ _
      | exact LeO.none _
      | refine LeO.ite ?_ ?_
      | refine LeO.bind ?_ (fun _ => ?_)
theorem bl_FloatsStand.mono : ∀ a0 a1 k, LeO (bl_FloatsStand.f k a0 a1) (bl_FloatsStand.f (k + 1) a0 a1) := by
  intro a0 a1 k
  obtain ⟨ih0, ih1⟩ := bl_FloatsStand.mono_l k
  unfold bl_FloatsStand.f
  repeat' first
      | (with_reducible exact ih0 _ _ _)
      | (with_reducible exact ih1 _ _ _ _)
      | (with_reducible exact bl_awake.mono _)
      | (with_reducible exact floats_Rel.mono _ _ _ _ _)
      | (with_reducible exact LeO.refl _)
      | (with_reducible exact LeO.none _)
      | (with_reducible refine LeO.ite ?_ ?_)
      | (with_reducible refine LeO.bind ?_ (fun _ => ?_))
      | exact ih0 _ _ _
      | exact ih1 _ _ _ _
      | exact bl_awake.mono _
      | exact floats_Rel.mono _ _ _ _ _
      | exact LeO.none _
      | refine LeO.ite ?_ ?_
      | refine LeO.bind ?_ (fun _ => ?_)
set_option maxHeartbeats 8000000 in
set_option maxRecDepth 100000 in
theorem bl_FloatsStand.calls (k : Nat) (a0 : Int) (a1 : Int) (r : Bool) (w : World) (h : bl_FloatsStand.f k a0 a1 = some r) :
    Calls Try.prog 5 #[.int .u64 a0, .int .u64 a1] w fun e w' => e = .returned (.bool r) ∧ Below w.heap.size w w' := by
  have HB := As0.mk (Below.refl w.heap.size w)
  have H : ((bl_awake.f k).bind fun t230 => (if t230 = true then (bl_FloatsStand.l0 k a0 a1 32) else (some false))) = some r := h
  clear h
  replace H := Option.bind_eq_some_iff.mp H
  obtain ⟨t230, A30, H⟩ := H
  replace H : (if t230 = true then (bl_FloatsStand.l0 k a0 a1 32) else (some false)) = some r := H
  have A3 := As0.mk A30
  clear A30
  by_cases c4 : t230 = true
  · subst c4
    have H1 : (bl_FloatsStand.l0 k a0 a1 32) = some r := by rw [if_pos rfl] at H; exact H
    clear H
    have H := H1
    clear H1
    have H' := As0.mk H
    clear H
    go_enter Try.func5, Try.ntmps5
    go_wp2_with (first | ((with_reducible refine gcl (f := 16) rfl ?_); refine goesL_ (some 12) rfl rfl Try.func16 (by kernel_rfl) rfl #[] rfl (by (try simp only [List.map_toArray, List.map_cons, List.map_nil]); first | done | rfl) ?_; (with_reducible refine (bl_awake.calls k  true _ A3.out).mono ?_); rintro e w5 ⟨rfl, hb⟩; refine ⟨_, rfl, ?_⟩; have n0_ := As0.mk (bst (by repeat (first | (with_reducible first | exact HB.out | apply bal | apply pwB_ | apply bd1) | exact HB.out)) hb); clear HB; have HB := n0_; clear n0_; (try clear hb); (try clear hb2); (try clear hk); (try clear hi)))
    go_loopg [6] k (fun kq v6 w' => ∃ (x6_1 : Int), v6 = .int .i64 x6_1 ∧ As0 (bl_FloatsStand.l0 kq a0 a1 x6_1 = some r) ∧ As0 (kq ≤ k) ∧ As0 (Below w.heap.size w w'))
    case atStart => exact ⟨(32), (by first | rfl | (simp; done) | (simp [*]; done)), H', ⟨Nat.le_refl _⟩, ⟨by repeat (first | (with_reducible first | exact HB.out | apply bal | apply pwB_ | apply bd1) | exact HB.out)⟩⟩
    case round =>
      clear H'
      try clear c1
      try clear p2
      try clear c4
      try clear c5
      obtain ⟨x6_1, rfl, HA, HK1, HB⟩ := hrel
      cases gk with
      | zero => exact absurd HA.out (by simp [bl_FloatsStand.l0])
      | succ k1 =>
        have H := HA.out
        clear HA
        simp only [bl_FloatsStand.l0] at H
        by_cases c6 : x6_1 ≤ 64
        · rw [if_pos c6] at H
          have c6b0 : decide (x6_1 ≤ 64) = true := decide_eq_true c6
          clear c6
          have H' := As0.mk H
          clear H
          go_wp2
          go_loopg [7] k1 (fun kq v7 w' => ∃ (x7_2 : Int), v7 = .int .i64 x7_2 ∧ As0 (bl_FloatsStand.l1 kq a0 a1 x6_1 x7_2 = some r) ∧ As0 (kq ≤ k1) ∧ As0 (Below w.heap.size w w'))
          case atStart => exact ⟨(1), (by first | rfl | (simp; done) | (simp [*]; done)), H', ⟨Nat.le_refl _⟩, ⟨by repeat (first | (with_reducible first | exact HB.out | apply bal | apply pwB_ | apply bd1) | exact HB.out)⟩⟩
          case round =>
            clear H'
            try clear c1
            try clear p2
            try clear c4
            try clear c5
            try clear c6
            try clear c6b0
            try clear p2
            obtain ⟨x7_2, rfl, HA, HK2, HB⟩ := hrel
            cases gk with
            | zero => exact absurd HA.out (by simp [bl_FloatsStand.l1])
            | succ k2 =>
              have H := HA.out
              clear HA
              simp only [bl_FloatsStand.l1] at H
              by_cases c7 : x7_2 ≤ 6
              · rw [if_pos c7] at H
                have c7b0 : decide (x7_2 ≤ 6) = true := decide_eq_true c7
                clear c7
                replace H := Option.bind_eq_some_iff.mp H
                obtain ⟨⟨t231, t232⟩, A80, H⟩ := H
                replace H : ((br_Rel.f x6_1 x7_2 a0 a1).bind fun bt233 => (if (t231 != bt233.1) = true then (some false) else (if t232 = bt233.2 then (bl_FloatsStand.l1 k2 a0 a1 x6_1 (wrap64 (x7_2 + 1))) else (some false)))) = some r := H
                have A8 := As0.mk A80
                clear A80
                replace H := Option.bind_eq_some_iff.mp H
                obtain ⟨⟨t233, t234⟩, A90, H⟩ := H
                replace H : (if (t231 != t233) = true then (some false) else (if t232 = t234 then (bl_FloatsStand.l1 k2 a0 a1 x6_1 (wrap64 (x7_2 + 1))) else (some false))) = some r := H
                have A9 := As0.mk A90
                clear A90
                by_cases c10 : (t231 != t233) = true
                · rw [if_pos c10] at H
                  have c10b0 : (t231 != t233) = true := c10
                  (try (have c10b1 : decide (t231 = t233) = false := by simpa using c10))
                  (try (have c10b2 : (t231 == t233) = false := by simpa using c10))
                  (try (have c10b3 : ¬ (t231 = t233) := by simpa using c10))
                  clear c10
                  obtain rfl := Option.some.inj H
                  go_wp2_with (first | ((with_reducible refine gcl (f := 21) rfl ?_); refine goesL_ (some 28) rfl rfl Try.func21 (by kernel_rfl) rfl #[.int .i64 x6_1, .int .i64 x7_2, .int .u64 a0, .int .u64 a1] rfl (by (try simp only [List.map_toArray, List.map_cons, List.map_nil]); first | done | rfl) ?_; (with_reducible refine (floats_Rel.calls k2 x6_1 x7_2 a0 a1 t231 t232 _ A8.out).mono ?_); rintro e w11 ⟨rfl, hb⟩; refine ⟨_, rfl, ?_⟩; have n0_ := As0.mk (bst (by repeat (first | (with_reducible first | exact HB.out | apply bal | apply pwB_ | apply bd1) | exact HB.out)) hb); clear HB; have HB := n0_; clear n0_; (try clear hb); (try clear hb2); (try clear hk); (try clear hi)) | ((with_reducible refine gcl (f := 23) rfl ?_); refine goesL_ (some 36) rfl rfl Try.func23 (by kernel_rfl) rfl #[.int .i64 x6_1, .int .i64 x7_2, .int .u64 a0, .int .u64 a1] rfl (by (try simp only [List.map_toArray, List.map_cons, List.map_nil]); first | done | rfl) ?_; (with_reducible refine (br_Rel.calls x6_1 x7_2 a0 a1 t233 t234 _ A9.out).mono ?_); rintro e w12 ⟨rfl, hb⟩; refine ⟨_, rfl, ?_⟩; have n0_ := As0.mk (bst (by repeat (first | (with_reducible first | exact HB.out | apply bal | apply pwB_ | apply bd1) | exact HB.out)) hb); clear HB; have HB := n0_; clear n0_; (try clear hb); (try clear hb2); (try clear hk); (try clear hi)))
                  go_ret
                  exact ⟨by first | rfl | (simp [*] <;> rfl), by repeat (first | (with_reducible first | exact HB.out | apply bal | apply pwB_ | apply bd1) | exact HB.out)⟩
                · rw [if_neg c10] at H
                  have c10b0 : (t231 != t233) = false := by simpa using c10
                  (try (have c10b1 : decide (t231 = t233) = true := by simpa using c10))
                  (try (have c10b2 : (t231 == t233) = true := by simpa using c10))
                  clear c10
                  by_cases c13 : t232 = t234
                  · rw [if_pos c13] at H
                    have c13b0 : (t232 == t234) = true := beq_iff_eq.mpr c13
                    have c13b1 : (t232 != t234) = false := bne_eq_false_iff_eq.mpr c13
                    clear c13
                    have H' := As0.mk H
                    clear H
                    go_wp2_with (first | ((with_reducible refine gcl (f := 21) rfl ?_); refine goesL_ (some 28) rfl rfl Try.func21 (by kernel_rfl) rfl #[.int .i64 x6_1, .int .i64 x7_2, .int .u64 a0, .int .u64 a1] rfl (by (try simp only [List.map_toArray, List.map_cons, List.map_nil]); first | done | rfl) ?_; (with_reducible refine (floats_Rel.calls k2 x6_1 x7_2 a0 a1 t231 t232 _ A8.out).mono ?_); rintro e w14 ⟨rfl, hb⟩; refine ⟨_, rfl, ?_⟩; have n0_ := As0.mk (bst (by repeat (first | (with_reducible first | exact HB.out | apply bal | apply pwB_ | apply bd1) | exact HB.out)) hb); clear HB; have HB := n0_; clear n0_; (try clear hb); (try clear hb2); (try clear hk); (try clear hi)) | ((with_reducible refine gcl (f := 23) rfl ?_); refine goesL_ (some 36) rfl rfl Try.func23 (by kernel_rfl) rfl #[.int .i64 x6_1, .int .i64 x7_2, .int .u64 a0, .int .u64 a1] rfl (by (try simp only [List.map_toArray, List.map_cons, List.map_nil]); first | done | rfl) ?_; (with_reducible refine (br_Rel.calls x6_1 x7_2 a0 a1 t233 t234 _ A9.out).mono ?_); rintro e w15 ⟨rfl, hb⟩; refine ⟨_, rfl, ?_⟩; have n0_ := As0.mk (bst (by repeat (first | (with_reducible first | exact HB.out | apply bal | apply pwB_ | apply bd1) | exact HB.out)) hb); clear HB; have HB := n0_; clear n0_; (try clear hb); (try clear hb2); (try clear hk); (try clear hi)))
                    go_roundg k2
                    case measure => have := HK1.out; have := HK2.out; omega
                    case rel => exact ⟨(wrap64 (x7_2 + 1)), (by first | rfl | (simp; done) | (simp [*]; done)), H', ⟨by have := HK1.out; have := HK2.out; omega⟩, ⟨by repeat (first | (with_reducible first | exact HB.out | apply bal | apply pwB_ | apply bd1) | exact HB.out)⟩⟩
                  · rw [if_neg c13] at H
                    have c13b0 : (t232 == t234) = false := beq_eq_false_iff_ne.mpr c13
                    have c13b1 : (t232 != t234) = true := bne_iff_ne.mpr c13
                    obtain rfl := Option.some.inj H
                    go_wp2_with (first | ((with_reducible refine gcl (f := 21) rfl ?_); refine goesL_ (some 28) rfl rfl Try.func21 (by kernel_rfl) rfl #[.int .i64 x6_1, .int .i64 x7_2, .int .u64 a0, .int .u64 a1] rfl (by (try simp only [List.map_toArray, List.map_cons, List.map_nil]); first | done | rfl) ?_; (with_reducible refine (floats_Rel.calls k2 x6_1 x7_2 a0 a1 t231 t232 _ A8.out).mono ?_); rintro e w16 ⟨rfl, hb⟩; refine ⟨_, rfl, ?_⟩; have n0_ := As0.mk (bst (by repeat (first | (with_reducible first | exact HB.out | apply bal | apply pwB_ | apply bd1) | exact HB.out)) hb); clear HB; have HB := n0_; clear n0_; (try clear hb); (try clear hb2); (try clear hk); (try clear hi)) | ((with_reducible refine gcl (f := 23) rfl ?_); refine goesL_ (some 36) rfl rfl Try.func23 (by kernel_rfl) rfl #[.int .i64 x6_1, .int .i64 x7_2, .int .u64 a0, .int .u64 a1] rfl (by (try simp only [List.map_toArray, List.map_cons, List.map_nil]); first | done | rfl) ?_; (with_reducible refine (br_Rel.calls x6_1 x7_2 a0 a1 t233 t234 _ A9.out).mono ?_); rintro e w17 ⟨rfl, hb⟩; refine ⟨_, rfl, ?_⟩; have n0_ := As0.mk (bst (by repeat (first | (with_reducible first | exact HB.out | apply bal | apply pwB_ | apply bd1) | exact HB.out)) hb); clear HB; have HB := n0_; clear n0_; (try clear hb); (try clear hb2); (try clear hk); (try clear hi)))
                    go_ret
                    exact ⟨by first | rfl | (simp [*] <;> rfl), by repeat (first | (with_reducible first | exact HB.out | apply bal | apply pwB_ | apply bd1) | exact HB.out)⟩
              · rw [if_neg c7] at H
                have c7b0 : decide (x7_2 ≤ 6) = false := decide_eq_false c7
                clear c7
                have H' := As0.mk H
                clear H
                go_wp2
                go_roundg k2
                case measure => have := HK1.out; have := HK2.out; omega
                case rel => exact ⟨(wrap64 (x6_1 + 32)), (by first | rfl | (simp; done) | (simp [*]; done)), H', ⟨by have := HK1.out; have := HK2.out; omega⟩, ⟨by repeat (first | (with_reducible first | exact HB.out | apply bal | apply pwB_ | apply bd1) | exact HB.out)⟩⟩
        · rw [if_neg c6] at H
          have c6b0 : decide (x6_1 ≤ 64) = false := decide_eq_false c6
          clear c6
          obtain rfl := Option.some.inj H
          go_wp2
          go_ret
          exact ⟨by first | rfl | (simp [*] <;> rfl), by repeat (first | (with_reducible first | exact HB.out | apply bal | apply pwB_ | apply bd1) | exact HB.out)⟩
  · replace c4 := Bool.eq_false_iff.mpr c4
    subst c4
    have H1 : (some false) = some r := by rw [if_neg (show ¬ (false = true) by decide)] at H; exact H
    clear H
    have H := H1
    clear H1
    obtain rfl := Option.some.inj H
    go_enter Try.func5, Try.ntmps5
    go_wp2_with (first | ((with_reducible refine gcl (f := 16) rfl ?_); refine goesL_ (some 12) rfl rfl Try.func16 (by kernel_rfl) rfl #[] rfl (by (try simp only [List.map_toArray, List.map_cons, List.map_nil]); first | done | rfl) ?_; (with_reducible refine (bl_awake.calls k  false _ A3.out).mono ?_); rintro e w18 ⟨rfl, hb⟩; refine ⟨_, rfl, ?_⟩; have n0_ := As0.mk (bst (by repeat (first | (with_reducible first | exact HB.out | apply bal | apply pwB_ | apply bd1) | exact HB.out)) hb); clear HB; have HB := n0_; clear n0_; (try clear hb); (try clear hb2); (try clear hk); (try clear hi)))
    go_ret
    exact ⟨by first | rfl | (simp [*] <;> rfl), by repeat (first | (with_reducible first | exact HB.out | apply bal | apply pwB_ | apply bd1) | exact HB.out)⟩
/-- THE ONE PURE STATEMENT of bl_FloatsStand: yours. -/
def bl_FloatsStand.Pure : Prop := ∀ (a0 : Int) (a1 : Int), (Lit.int .u64 a0).wf = true → (Lit.int .u64 a1).wf = true → ∃ k, bl_FloatsStand.f k a0 a1 = some true
theorem bl_FloatsStand.walk (P : bl_FloatsStand.Pure) (a0 : Int) (a1 : Int) (w : World) (w0 : (Lit.int .u64 a0).wf = true) (w1 : (Lit.int .u64 a1).wf = true) :
    Calls Try.prog 5 #[.int .u64 a0, .int .u64 a1] w fun e w' => e = .returned (.bool true) ∧ Below w.heap.size w w' := by
  obtain ⟨k, h⟩ := P a0 a1 w0 w1
  refine (bl_FloatsStand.calls k a0 a1 true w h).mono ?_
  rintro e w' ⟨rfl, hd⟩
  exact ⟨rfl, hd⟩
-- given: function 27 (br_Canonical)
-- given: function 35 (br_sign)
-- given: function 52 (br_cut)
-- NOT PRINTED: function 70 (math_Float64bits)
-- NOT PRINTED: function 53 (br_B64)
-- NOT PRINTED: function 54 (br_worked)
-- NOT PRINTED: function 72 (math_Float32bits)
-- NOT PRINTED: function 56 (br_B32)
-- given: function 24 (br_Bin)
-- given: function 25 (br_Kind)
def bl_FloatsBin.f (k : Nat) (a0 : Int) (a1 : Int) (a2 : Int) (a3 : Int) : Option (Bool) := (bl_awake.f k).bind fun t235 => (if t235 = true then ((floats_Bin.f k a0 a1 a2 a3).bind fun bt236 => ((br_Bin.f a0 a1 a2 a3).bind fun bt238 => (if bt236.1 = bt238.1 then (if bt236.2 = bt238.2 then ((floats_Kind.f a0 a2).bind fun t240 => ((br_Kind.f a0 a2).bind fun t241 => (if t240 = t241 then ((floats_Canonical.f a0).bind fun t242 => ((br_Canonical.f a0).bind fun t243 => (some (t242 == t243)))) else (some false)))) else (some false)) else (some false)))) else (some false))
theorem bl_FloatsBin.mono : ∀ a0 a1 a2 a3 k, LeO (bl_FloatsBin.f k a0 a1 a2 a3) (bl_FloatsBin.f (k + 1) a0 a1 a2 a3) := by
  intro a0 a1 a2 a3 k
  unfold bl_FloatsBin.f
  repeat' first
      | (with_reducible exact bl_awake.mono _)
      | (with_reducible exact floats_Bin.mono _ _ _ _ _)
      | (with_reducible exact LeO.refl _)
      | (with_reducible exact LeO.none _)
      | (with_reducible refine LeO.ite ?_ ?_)
      | (with_reducible refine LeO.bind ?_ (fun _ => ?_))
      | exact bl_awake.mono _
      | exact floats_Bin.mono _ _ _ _ _
      | exact LeO.none _
      | refine LeO.ite ?_ ?_
      | refine LeO.bind ?_ (fun _ => ?_)
/-- THE ONE PURE STATEMENT of bl_FloatsBin: yours. -/
def bl_FloatsBin.Pure : Prop := ∀ (a0 : Int) (a1 : Int) (a2 : Int) (a3 : Int), (Lit.int .i64 a0).wf = true → (Lit.int .i64 a1).wf = true → (Lit.int .u64 a2).wf = true → (Lit.int .u64 a3).wf = true → ∃ k, bl_FloatsBin.f k a0 a1 a2 a3 = some true
mutual
def bl_FloatsSums.l0 : Nat → Int → Int → Int → Option (Bool)
  | 0, _, _, _ => none
  | k + 1, x0, x1, x6 => if x6 ≤ 64 then (bl_FloatsSums.l1 k x0 x1 x6 1) else (some true)
def bl_FloatsSums.l1 : Nat → Int → Int → Int → Int → Option (Bool)
  | 0, _, _, _, _ => none
  | k + 1, x0, x1, x6, x7 => if x7 ≤ 2 then ((floats_Bin.f k x6 x7 x0 x1).bind fun bt245 => ((br_Bin.f x6 x7 x0 x1).bind fun bt247 => (if bt245.1 = bt247.1 then (if bt245.2 = bt247.2 then (bl_FloatsSums.l1 k x0 x1 x6 (wrap64 (x7 + 1))) else (some false)) else (some false)))) else (bl_FloatsSums.l0 k x0 x1 (wrap64 (x6 + 32)))
end
def bl_FloatsSums.f (k : Nat) (a0 : Int) (a1 : Int) : Option (Bool) := (bl_awake.f k).bind fun t244 => (if t244 = true then (bl_FloatsSums.l0 k a0 a1 32) else (some false))
theorem bl_FloatsSums.mono_l : ∀ k, (∀ y0 y1 y2, LeO (bl_FloatsSums.l0 k y0 y1 y2) (bl_FloatsSums.l0 (k + 1) y0 y1 y2)) ∧ (∀ y0 y1 y2 y3, LeO (bl_FloatsSums.l1 k y0 y1 y2 y3) (bl_FloatsSums.l1 (k + 1) y0 y1 y2 y3)) := by
  intro k
  induction k with
  | zero => exact ⟨fun _ _ _ r h => by simp [bl_FloatsSums.l0] at h, fun _ _ _ _ r h => by simp [bl_FloatsSums.l1] at h⟩
  | succ k ih =>
    obtain ⟨ih0, ih1⟩ := ih
    refine ⟨?_, ?_⟩
    · intro y0 y1 y2
      unfold bl_FloatsSums.l0
      repeat' first
      | (with_reducible exact ih0 _ _ _)
      | (with_reducible exact ih1 _ _ _ _)
      | (with_reducible exact bl_awake.mono _)
      | (with_reducible exact floats_Bin.mono _ _ _ _ _)
      | (with_reducible exact LeO.refl _)
      | (with_reducible exact LeO.none _)
      | (with_reducible refine LeO.ite ?_ ?_)
      | (with_reducible refine LeO.bind ?_ (fun _ => ?_))
      | exact ih0 _ _ _
      | exact ih1 _ _ _ _
      | exact bl_awake.mono _
      | exact floats_Bin.mono _ _ _ _ _
      | exact LeO.none _
      | refine LeO.ite ?_ ?_
      | refine LeO.bind ?_ (fun _ => ?_)
    · intro y0 y1 y2 y3
      unfold bl_FloatsSums.l1
      repeat' first
      | (with_reducible exact ih0 _ _ _)
      | (with_reducible exact ih1 _ _ _ _)
      | (with_reducible exact bl_awake.mono _)
      | (with_reducible exact floats_Bin.mono _ _ _ _ _)
      | (with_reducible exact LeO.refl _)
      | (with_reducible exact LeO.none _)
      | (with_reducible refine LeO.ite ?_ ?_)
      | (with_reducible refine LeO.bind ?_ (fun _ => ?_))
      | exact ih0 _ _ _
      | exact ih1 _ _ _ _
      | exact bl_awake.mono _
      | exact floats_Bin.mono _ _ _ _ _
      | exact LeO.none _
      | refine LeO.ite ?_ ?_
      | refine LeO.bind ?_ (fun _ => ?_)
theorem bl_FloatsSums.mono : ∀ a0 a1 k, LeO (bl_FloatsSums.f k a0 a1) (bl_FloatsSums.f (k + 1) a0 a1) := by
  intro a0 a1 k
  obtain ⟨ih0, ih1⟩ := bl_FloatsSums.mono_l k
  unfold bl_FloatsSums.f
  repeat' first
      | (with_reducible exact ih0 _ _ _)
      | (with_reducible exact ih1 _ _ _ _)
      | (with_reducible exact bl_awake.mono _)
      | (with_reducible exact floats_Bin.mono _ _ _ _ _)
      | (with_reducible exact LeO.refl _)
      | (with_reducible exact LeO.none _)
      | (with_reducible refine LeO.ite ?_ ?_)
      | (with_reducible refine LeO.bind ?_ (fun _ => ?_))
      | exact ih0 _ _ _
      | exact ih1 _ _ _ _
      | exact bl_awake.mono _
      | exact floats_Bin.mono _ _ _ _ _
      | exact LeO.none _
      | refine LeO.ite ?_ ?_
      | refine LeO.bind ?_ (fun _ => ?_)
/-- THE ONE PURE STATEMENT of bl_FloatsSums: yours. -/
def bl_FloatsSums.Pure : Prop := ∀ (a0 : Int) (a1 : Int), (Lit.int .u64 a0).wf = true → (Lit.int .u64 a1).wf = true → ∃ k, bl_FloatsSums.f k a0 a1 = some true
mutual
def bl_FloatsProducts.l0 : Nat → Int → Int → Int → Option (Bool)
  | 0, _, _, _ => none
  | k + 1, x0, x1, x6 => if x6 ≤ 64 then (bl_FloatsProducts.l1 k x0 x1 x6 3) else (some true)
def bl_FloatsProducts.l1 : Nat → Int → Int → Int → Int → Option (Bool)
  | 0, _, _, _, _ => none
  | k + 1, x0, x1, x6, x7 => if x7 ≤ 3 then ((floats_Bin.f k x6 x7 x0 x1).bind fun bt250 => ((br_Bin.f x6 x7 x0 x1).bind fun bt252 => (if bt250.1 = bt252.1 then (if bt250.2 = bt252.2 then (bl_FloatsProducts.l1 k x0 x1 x6 (wrap64 (x7 + 1))) else (some false)) else (some false)))) else (bl_FloatsProducts.l0 k x0 x1 (wrap64 (x6 + 32)))
end
def bl_FloatsProducts.f (k : Nat) (a0 : Int) (a1 : Int) : Option (Bool) := (bl_awake.f k).bind fun t249 => (if t249 = true then (bl_FloatsProducts.l0 k a0 a1 32) else (some false))
theorem bl_FloatsProducts.mono_l : ∀ k, (∀ y0 y1 y2, LeO (bl_FloatsProducts.l0 k y0 y1 y2) (bl_FloatsProducts.l0 (k + 1) y0 y1 y2)) ∧ (∀ y0 y1 y2 y3, LeO (bl_FloatsProducts.l1 k y0 y1 y2 y3) (bl_FloatsProducts.l1 (k + 1) y0 y1 y2 y3)) := by
  intro k
  induction k with
  | zero => exact ⟨fun _ _ _ r h => by simp [bl_FloatsProducts.l0] at h, fun _ _ _ _ r h => by simp [bl_FloatsProducts.l1] at h⟩
  | succ k ih =>
    obtain ⟨ih0, ih1⟩ := ih
    refine ⟨?_, ?_⟩
    · intro y0 y1 y2
      unfold bl_FloatsProducts.l0
      repeat' first
      | (with_reducible exact ih0 _ _ _)
      | (with_reducible exact ih1 _ _ _ _)
      | (with_reducible exact bl_awake.mono _)
      | (with_reducible exact floats_Bin.mono _ _ _ _ _)
      | (with_reducible exact LeO.refl _)
      | (with_reducible exact LeO.none _)
      | (with_reducible refine LeO.ite ?_ ?_)
      | (with_reducible refine LeO.bind ?_ (fun _ => ?_))
      | exact ih0 _ _ _
      | exact ih1 _ _ _ _
      | exact bl_awake.mono _
      | exact floats_Bin.mono _ _ _ _ _
      | exact LeO.none _
      | refine LeO.ite ?_ ?_
      | refine LeO.bind ?_ (fun _ => ?_)
    · intro y0 y1 y2 y3
      unfold bl_FloatsProducts.l1
      repeat' first
      | (with_reducible exact ih0 _ _ _)
      | (with_reducible exact ih1 _ _ _ _)
      | (with_reducible exact bl_awake.mono _)
      | (with_reducible exact floats_Bin.mono _ _ _ _ _)
      | (with_reducible exact LeO.refl _)
      | (with_reducible exact LeO.none _)
      | (with_reducible refine LeO.ite ?_ ?_)
      | (with_reducible refine LeO.bind ?_ (fun _ => ?_))
      | exact ih0 _ _ _
      | exact ih1 _ _ _ _
      | exact bl_awake.mono _
      | exact floats_Bin.mono _ _ _ _ _
      | exact LeO.none _
      | refine LeO.ite ?_ ?_
      | refine LeO.bind ?_ (fun _ => ?_)
theorem bl_FloatsProducts.mono : ∀ a0 a1 k, LeO (bl_FloatsProducts.f k a0 a1) (bl_FloatsProducts.f (k + 1) a0 a1) := by
  intro a0 a1 k
  obtain ⟨ih0, ih1⟩ := bl_FloatsProducts.mono_l k
  unfold bl_FloatsProducts.f
  repeat' first
      | (with_reducible exact ih0 _ _ _)
      | (with_reducible exact ih1 _ _ _ _)
      | (with_reducible exact bl_awake.mono _)
      | (with_reducible exact floats_Bin.mono _ _ _ _ _)
      | (with_reducible exact LeO.refl _)
      | (with_reducible exact LeO.none _)
      | (with_reducible refine LeO.ite ?_ ?_)
      | (with_reducible refine LeO.bind ?_ (fun _ => ?_))
      | exact ih0 _ _ _
      | exact ih1 _ _ _ _
      | exact bl_awake.mono _
      | exact floats_Bin.mono _ _ _ _ _
      | exact LeO.none _
      | refine LeO.ite ?_ ?_
      | refine LeO.bind ?_ (fun _ => ?_)
/-- THE ONE PURE STATEMENT of bl_FloatsProducts: yours. -/
def bl_FloatsProducts.Pure : Prop := ∀ (a0 : Int) (a1 : Int), (Lit.int .u64 a0).wf = true → (Lit.int .u64 a1).wf = true → ∃ k, bl_FloatsProducts.f k a0 a1 = some true
end Go.Proofs.Ytjfmomogidgbpaa.PFm
namespace Go.Proofs.Ytjfmomogidgbpaa.Pure
set_option linter.unusedVariables false
set_option linter.unusedSimpArgs false
open Go.RowKit Go.Proofs.Ytjfmomogidgbpaa.PFl Go.Proofs.Ytjfmomogidgbpaa.Fl Go.Proofs.YtjfmomogidgbpaaW.PrintWords
/-- The two formats, as the program has them. -/
def Pq (p q : Int) (f : Ieee.Format) : Prop := (p = 23 ∧ q = 8 ∧ f = Ieee.single) ∨ (p = 52 ∧ q = 11 ∧ f = Ieee.double)
theorem and_mask (A k : Nat) (hA : A < 18446744073709551616) (hk : k ≤ 64) : Go.bits .and .u64 (A : Int) ((2 ^ k : Nat) - 1 : Int) = ((A % 2 ^ k : Nat) : Int) := by
  unfold Go.bits
  have h2 : 2 ^ k ≤ 18446744073709551616 := by
    have : 2 ^ k ≤ 2 ^ 64 := Nat.pow_le_pow_right (by decide) hk
    exact this
  have hp := pw_pos k
  have e : ((2 ^ k : Nat) - 1 : Int) = ((2 ^ k - 1 : Nat) : Int) := by omega
  have hb : IntKind.bits .u64 = 64 := rfl
  simp only [e]
  rw [IntKind.wrap_u64, BitVec.toNat_and, BitVec.ofInt_natCast, BitVec.ofInt_natCast, BitVec.toNat_ofNat, BitVec.toNat_ofNat, hb]
  rw [Nat.mod_eq_of_lt (show A < 2 ^ 64 from hA), Nat.mod_eq_of_lt (show 2 ^ k - 1 < 2 ^ 64 by omega), Nat.and_two_pow_sub_one_eq_mod]
  have := Nat.mod_lt A hp
  omega
theorem and_pow (A k : Nat) : A &&& 2 ^ k = if A / 2 ^ k % 2 = 1 then 2 ^ k else 0 := by
  apply Nat.eq_of_testBit_eq
  intro i
  rw [Nat.testBit_and, Nat.testBit_two_pow]
  by_cases h : A / 2 ^ k % 2 = 1
  · rw [if_pos h, Nat.testBit_two_pow]
    by_cases e : k = i
    · subst e
      rw [Nat.testBit_eq_decide_div_mod_eq, decide_eq_true h]; simp
    · simp [e]
  · rw [if_neg h, Nat.zero_testBit]
    by_cases e : k = i
    · subst e
      rw [Nat.testBit_eq_decide_div_mod_eq, decide_eq_false h]; simp
    · simp [e]
theorem and_bit (A k : Nat) (hA : A < 18446744073709551616) (hk : k ≤ 63) : (Go.bits .and .u64 (A : Int) ((2 ^ k : Nat) : Int) != 0) = (A / 2 ^ k % 2 == 1) := by
  unfold Go.bits
  have h2 : 2 ^ k < 18446744073709551616 := by
    have : 2 ^ k < 2 ^ 64 := Nat.pow_lt_pow_right (by decide) (by omega)
    exact this
  have hb : IntKind.bits .u64 = 64 := rfl
  simp only
  rw [IntKind.wrap_u64, BitVec.toNat_and, BitVec.ofInt_natCast, BitVec.ofInt_natCast, BitVec.toNat_ofNat, BitVec.toNat_ofNat, hb]
  rw [Nat.mod_eq_of_lt (show A < 2 ^ 64 from hA), Nat.mod_eq_of_lt (show 2 ^ k < 2 ^ 64 from h2), and_pow]
  have hp := pw_pos k
  by_cases h : A / 2 ^ k % 2 = 1
  · rw [if_pos h, h, beq_self_eq_true, bne_iff_ne]
    omega
  · rw [if_neg h]
    have : A / 2 ^ k % 2 = 0 := by omega
    rw [this]; rfl
theorem or_top (A k : Nat) (hA : A < 2 ^ k) (hk : k ≤ 63) : Go.bits .or .u64 (A : Int) ((2 ^ k : Nat) : Int) = ((2 ^ k + A : Nat) : Int) := by
  unfold Go.bits
  have h2 : 2 ^ k < 2 ^ 64 := Nat.pow_lt_pow_right (by decide) (by omega)
  have h3 : 2 ^ (k + 1) ≤ 2 ^ 64 := Nat.pow_le_pow_right (by decide) (by omega)
  have h4 : 2 ^ (k + 1) = 2 * 2 ^ k := by rw [Nat.pow_succ, Nat.mul_comm]
  have hb : IntKind.bits .u64 = 64 := rfl
  simp only
  rw [IntKind.wrap_u64, BitVec.toNat_or, BitVec.ofInt_natCast, BitVec.ofInt_natCast, BitVec.toNat_ofNat, BitVec.toNat_ofNat, hb]
  rw [Nat.mod_eq_of_lt (show A < 2 ^ 64 by omega), Nat.mod_eq_of_lt h2]
  have e : A ||| 2 ^ k = 2 ^ k + A := by
    rw [Nat.or_comm]
    have := Nat.two_pow_add_eq_or_of_lt hA 1
    rw [Nat.mul_one] at this
    exact this.symm
  rw [e]
  have : 2 ^ 64 = 18446744073709551616 := by decide
  omega
theorem c_sign {p q f} (h : Pq p q f) : ff_sign.f p q = some (f.signWeight : Int) := by
  rcases h with ⟨rfl, rfl, rfl⟩ | ⟨rfl, rfl, rfl⟩ <;> decide +kernel
theorem c_inf {p q f} (h : Pq p q f) : ff_infinity.f p q = some (f.infRung : Int) := by
  rcases h with ⟨rfl, rfl, rfl⟩ | ⟨rfl, rfl, rfl⟩ <;> decide +kernel
theorem c_least {p q f} (h : Pq p q f) : ff_least.f p q = some f.leastPlace := by
  rcases h with ⟨rfl, rfl, rfl⟩ | ⟨rfl, rfl, rfl⟩ <;> decide +kernel
theorem c_none {p q f} (h : Pq p q f) : ff_none.f p q = some false := by
  rcases h with ⟨rfl, rfl, rfl⟩ | ⟨rfl, rfl, rfl⟩ <;> decide +kernel
/-- The sign's place. -/
theorem sgn_pow {p q f} (h : Pq p q f) : ∃ k : Nat, k ≤ 63 ∧ 31 ≤ k ∧ f.signWeight = 2 ^ k := by
  rcases h with ⟨rfl, rfl, rfl⟩ | ⟨rfl, rfl, rfl⟩
  · exact ⟨31, by decide, by decide, rfl⟩
  · exact ⟨63, by decide, by decide, rfl⟩
theorem bin_ok {p q f} (h : Pq p q f) : f.binade ≤ f.infRung := by
  rcases h with ⟨rfl, rfl, rfl⟩ | ⟨rfl, rfl, rfl⟩
  · exact bin_single
  · exact bin_double
theorem c_size {p q f} (h : Pq p q f) (A : Nat) (hA : A < 18446744073709551616) : ff_size.f p q A = some (rungOf f A : Int) := by
  obtain ⟨k, hk, hk2, e⟩ := sgn_pow h
  unfold ff_size.f
  rw [c_sign h]
  simp only [Option.bind_some]
  have h2 : 2 ^ k ≤ 2 ^ 63 := Nat.pow_le_pow_right (by decide) hk
  have hp := pw_pos k
  rw [e, IntKind.wrap_u64, show (((2 ^ k : Nat) : Int) - 1) % 18446744073709551616 = ((2 ^ k : Nat) : Int) - 1 from by omega, and_mask A k hA (by omega)]
  unfold rungOf
  rw [e]
theorem c_neg {p q f} (h : Pq p q f) (A : Nat) (hA : A < 18446744073709551616) : ff_neg.f p q A = some (negOf f A) := by
  obtain ⟨k, hk, hk2, e⟩ := sgn_pow h
  unfold ff_neg.f
  rw [c_sign h]
  simp only [Option.bind_some]
  rw [e, and_bit A k hA hk]
  unfold negOf
  rw [e]
theorem c_signed {p q f} (h : Pq p q f) (neg : Bool) (r : Nat) (hr : r < f.signWeight) : ff_signed.f p q neg r = some (f.word neg r : Int) := by
  obtain ⟨k, hk, hk2, e⟩ := sgn_pow h
  unfold ff_signed.f Ieee.Format.word
  cases neg
  · rfl
  · rw [if_pos rfl, if_pos rfl, c_sign h]
    simp only [Option.bind_some]
    rw [e] at hr ⊢
    rw [or_top r k hr hk]
theorem c_cut {p q f} (h : Pq p q f) (A : Nat) (hA : A < 18446744073709551616) : ff_cut.f p q A = some ((A % (2 * f.signWeight) : Nat) : Int) := by
  obtain ⟨k, hk, hk2, e⟩ := sgn_pow h
  unfold ff_cut.f
  rw [c_sign h]
  simp only [Option.bind_some]
  have h4 : 2 * 2 ^ k = 2 ^ (k + 1) := by rw [Nat.pow_succ, Nat.mul_comm]
  have key : IntKind.u64.wrap (IntKind.u64.wrap ((f.signWeight : Int) * 2) - 1) = ((2 ^ (k + 1) : Nat) : Int) - 1 := by
    rw [IntKind.wrap_u64, IntKind.wrap_u64, e]
    rcases h with ⟨rfl, rfl, rfl⟩ | ⟨rfl, rfl, rfl⟩
    · have : 2 ^ k = 2147483648 := e.symm
      rw [← h4, this]; decide
    · have : 2 ^ k = 9223372036854775808 := e.symm
      rw [← h4, this]; decide
  rw [key, and_mask A (k + 1) hA (by omega), ← h4, e]
theorem c_nan {p q f} (h : Pq p q f) : ff_isNaN.f p q = fun A => (ff_size.f p q A).bind fun s => some (decide ((f.infRung : Int) < s)) := by
  funext A
  unfold ff_isNaN.f
  rw [c_inf h]
  rfl
theorem c_isNaN {p q f} (h : Pq p q f) (A : Nat) (hA : A < 18446744073709551616) : ff_isNaN.f p q A = some (nanW f A) := by
  rw [c_nan h]
  simp only
  rw [c_size h A hA]
  simp only [Option.bind_some]
  unfold nanW
  refine congrArg some ?_
  rw [decide_eq_decide]
  omega
end Go.Proofs.Ytjfmomogidgbpaa.Pure
namespace Go.Proofs.Ytjfmomogidgbpaa.Pure
set_option linter.unusedVariables false
set_option linter.unusedSimpArgs false
open Go.RowKit Go.Proofs.Ytjfmomogidgbpaa.PFl Go.Proofs.Ytjfmomogidgbpaa.Fl Go.Proofs.YtjfmomogidgbpaaW.PrintWords
theorem bitLen_log2 : ∀ (n x : Nat), x < 2 ^ n → n ≤ 64 → x ≠ 0 → Lib.bitLen x = x.log2 + 1
  | 0, x, h, _, h0 => by simp at h; omega
  | n + 1, x, h, hn, h0 => by
    have hx : x < 2 ^ 64 := Nat.lt_of_lt_of_le h (Nat.pow_le_pow_right (by decide) hn)
    rw [Lib.bitLen_half x h0 hx]
    by_cases c : x / 2 = 0
    · have : x = 1 := by omega
      subst this
      decide
    · rw [bitLen_log2 n (x / 2) (by rw [Nat.pow_succ] at h; omega) (by omega) c]
      have := log2_cut x 1 (by rw [Nat.pow_one]; exact c)
      rw [Nat.pow_one] at this
      omega
theorem c_len (M : Nat) (hM : M < 18446744073709551616) (h0 : M ≠ 0) : bits_Len64.f (M : Int) = some ((M.log2 + 1 : Nat) : Int) := by
  unfold bits_Len64.f
  rw [if_pos (by omega), show ((M : Int)).toNat = M from by omega, bitLen_log2 64 M hM (by decide) h0]
/-- A number that is too great is infinity. -/
theorem nearest_big (f : Ieee.Format) (neg : Bool) (N : Nat) (p : Int) (h0 : N ≠ 0) (hp : f.leastPlace + 2 ^ f.exponentBits + f.fractionBits ≤ p) : f.nearest neg N p = f.word neg f.infRung := by
  rw [nearest_eq f neg N p h0]
  have hl : f.leastPlace + 2 ^ f.exponentBits ≤ lastOf f N p := by unfold lastOf; omega
  have h1 : 2 ^ f.exponentBits ≤ (lastOf f N p - f.leastPlace).toNat := by
    have : ((2 ^ f.exponentBits : Nat) : Int) = (2 : Int) ^ f.exponentBits := by rw [Int.natCast_pow]; rfl
    omega
  have h2 : f.infRung ≤ (lastOf f N p - f.leastPlace).toNat * f.binade := by
    unfold Ieee.Format.infRung
    exact Nat.mul_le_mul_right _ (by omega)
  rw [Nat.min_eq_right (by omega)]
/-- A number that is too small is nought. -/
theorem nearest_small (f : Ieee.Format) (neg : Bool) (N : Nat) (p : Int) (hp : p + N.log2 + 2 ≤ f.leastPlace) (hw : 0 ≤ f.infRung) : f.nearest neg N p = f.word neg 0 := by
  by_cases h0 : N = 0
  · subst h0; exact nearest_zero ..
  · have hl : lastOf f N p = f.leastPlace := by unfold lastOf; omega
    rw [nearest_eq f neg N p h0, hl]
    have h1 : N < 2 ^ (N.log2 + 1) := Nat.lt_log2_self
    have : rneP N (p - f.leastPlace) = 0 := by
      unfold rneP
      rw [show (p - f.leastPlace).toNat = 0 from by omega, Nat.pow_zero, Nat.mul_one]
      apply rne_small
      have : 2 ^ (N.log2 + 2) ≤ 2 ^ (-(p - f.leastPlace)).toNat := Nat.pow_le_pow_right (by decide) (by omega)
      have : 2 ^ (N.log2 + 2) = 2 * 2 ^ (N.log2 + 1) := by rw [Nat.pow_succ 2 (N.log2 + 1), Nat.mul_comm]
      omega
    rw [this, Int.sub_self]
    simp
theorem shl_nat (x d : Nat) (h : x * 2 ^ d < 18446744073709551616) (hd : d ≤ 64) : shl .u64 (x : Int) (d : Int) = ((x * 2 ^ d : Nat) : Int) := by
  unfold shl
  rw [IntKind.wrap_u64, show min (d : Int).toNat IntKind.u64.bits = d from by rw [Int.toNat_natCast]; exact Nat.min_eq_left hd]
  have : (x : Int) * 2 ^ d = ((x * 2 ^ d : Nat) : Int) := by rw [Int.natCast_mul, Int.natCast_pow]; rfl
  rw [this]
  omega
theorem shr_nat (x d : Nat) (hd : d ≤ 64) : shr .u64 (x : Int) (d : Int) = ((x / 2 ^ d : Nat) : Int) := by
  unfold shr
  rw [show min (d : Int).toNat IntKind.u64.bits = d from by rw [Int.toNat_natCast]; exact Nat.min_eq_left hd]
  rw [Int.natCast_ediv, Int.natCast_pow]; rfl
/-- The widths, as numbers. -/
theorem c_w {p q f} (h : Pq p q f) : p = (f.fractionBits : Int) ∧ q = (f.exponentBits : Int) ∧ f.fractionBits ≤ 52 ∧ 23 ≤ f.fractionBits ∧ f.exponentBits ≤ 11 ∧ 8 ≤ f.exponentBits ∧ -1074 ≤ f.leastPlace ∧ f.leastPlace ≤ -149 ∧
    f.signWeight ≤ 9223372036854775808 ∧ f.binade ≤ 4503599627370496 ∧ f.signWeight = 2 ^ f.exponentBits * f.binade ∧ f.infRung < f.signWeight := by
  rcases h with ⟨rfl, rfl, rfl⟩ | ⟨rfl, rfl, rfl⟩
  · refine ⟨rfl, rfl, by decide, by decide, by decide, by decide, by rw [s_least]; decide, by rw [s_least]; decide, by rw [s_sgn]; decide, by rw [s_bin]; decide, by decide +kernel, by decide +kernel⟩
  · refine ⟨rfl, rfl, by decide, by decide, by decide, by decide, by rw [d_least]; decide, by rw [d_least]; decide, by rw [d_sgn]; decide, by rw [d_bin]; decide, by decide +kernel, by decide +kernel⟩
/-- The end of a rounding: the exponent's field and the kept digits, no more than infinity. -/
theorem c_j0 {p q f} (h : Pq p q f) (neg : Bool) (K : Nat) (L e : Int) (he : -5000 ≤ e ∧ e ≤ 5000) (hL : f.leastPlace ≤ L) (hL2 : L ≤ 5100) (hK : K ≤ 2 * f.binade) (hK2 : f.leastPlace < L → f.binade ≤ K) (k : Nat) :
    ff_round.j0 (k + 2) neg K e (L - e) p q = some ((f.word neg (min ((L - f.leastPlace).toNat * f.binade + K) f.infRung) : Nat) : Int) := by
  obtain ⟨w1, w2, w3, w4, w5, w6, w7, w8, w9, w10, w11, w12⟩ := c_w h
  have hmin : min ((L - f.leastPlace).toNat * f.binade + K) f.infRung < f.signWeight := Nat.lt_of_le_of_lt (Nat.min_le_right _ _) w12
  have hs : shl .u64 1 (IntKind.u64.wrap p) = (f.binade : Int) := by
    rw [IntKind.wrap_u64, w1, show (f.fractionBits : Int) % 18446744073709551616 = f.fractionBits from by omega]
    have := shl_nat 1 f.fractionBits (by rw [Nat.one_mul]; exact Nat.lt_of_le_of_lt w10 (by decide)) (by omega)
    rw [Nat.one_mul] at this
    exact this
  have hq : shl .i64 1 (IntKind.u64.wrap q) = ((2 ^ f.exponentBits : Nat) : Int) := by
    rcases h with ⟨rfl, rfl, rfl⟩ | ⟨rfl, rfl, rfl⟩ <;> decide +kernel
  have j1 : ∀ l : Nat, l ≤ 20000 → (l * f.binade + K = (L - f.leastPlace).toNat * f.binade + K) →
      ff_round.j1 (k + 1) neg K (l : Int) p q = some ((f.word neg (min ((L - f.leastPlace).toNat * f.binade + K) f.infRung) : Nat) : Int) := by
    intro l hl hlb
    simp only [ff_round.j1]
    rw [if_pos (by rw [IntKind.wrap_u64]; omega), hq, ← hlb]
    have hexp : f.infRung < 2 ^ f.exponentBits * f.binade := by rw [← w11]; exact w12
    by_cases c : (l : Int) ≥ ((2 ^ f.exponentBits : Nat) : Int)
    · rw [if_pos c, c_inf h]
      simp only [Option.bind_some]
      have h1 : 2 ^ f.exponentBits * f.binade ≤ l * f.binade := Nat.mul_le_mul_right _ (by omega)
      rw [c_signed h neg f.infRung w12, Nat.min_eq_right (by omega)]
      rfl
    · rw [if_neg c, if_pos (by rw [IntKind.wrap_u64]; omega), c_inf h]
      simp only [Option.bind_some]
      have h1 : (l + 1) * f.binade ≤ 2 ^ f.exponentBits * f.binade := Nat.mul_le_mul_right _ (by omega)
      rw [Nat.add_mul, Nat.one_mul, ← w11] at h1
      have e1 : shl .u64 (IntKind.u64.wrap (l : Int)) (IntKind.u64.wrap p) = ((l * f.binade : Nat) : Int) := by
        rw [IntKind.wrap_u64, IntKind.wrap_u64, w1, show (l : Int) % 18446744073709551616 = (l : Int) from by omega, show (f.fractionBits : Int) % 18446744073709551616 = f.fractionBits from by omega]
        exact shl_nat l f.fractionBits (by show l * f.binade < _; omega) (by omega)
      rw [e1, IntKind.wrap_u64]
      have e2 : mn ((((l * f.binade : Nat) : Int) + (K : Int)) % 18446744073709551616) (f.infRung : Int) = ((min (l * f.binade + K) f.infRung : Nat) : Int) := by
        rw [show (((l * f.binade : Nat) : Int) + (K : Int)) % 18446744073709551616 = ((l * f.binade + K : Nat) : Int) from by omega]
        unfold mn
        split <;> omega
      rw [e2, c_signed h neg _ (by rw [hlb]; exact hmin)]
      rfl
  simp only [ff_round.j0]
  rw [if_pos (by rw [IntKind.wrap_u64]; omega), hs]
  by_cases c : (K : Int) ≥ (f.binade : Int)
  · rw [if_pos c, c_least h]
    simp only [Option.bind_some]
    rw [show wrap64 (wrap64 (e + (L - e)) - f.leastPlace) = (((L - f.leastPlace).toNat : Nat) : Int) from by unfold wrap64; omega]
    exact j1 _ (by omega) rfl
  · rw [if_neg c]
    have hLe : L = f.leastPlace := by
      apply Classical.byContradiction; intro x
      have := hK2 (by omega); omega
    exact j1 0 (by omega) (by rw [hLe, Int.sub_self]; rfl)
/-- What is kept of a number, as the code reckons it. -/
theorem kept_up (M D : Nat) (b : Bool) (h1 : 1 ≤ D) (h2 : D ≤ 64) (hM : M < 18446744073709551616) :
    shl .u64 (M : Int) ((64 - D : Nat) : Int) = ((M % 2 ^ D * 2 ^ (64 - D) : Nat) : Int) ∧ shr .u64 ((M : Int) / 2) ((D - 1 : Nat) : Int) = ((M / 2 ^ D : Nat) : Int) ∧
    rne (2 * M + b.toNat) (D + 1) = M / 2 ^ D + (if 2 ^ D < 2 * (M % 2 ^ D) ∨ (2 ^ D = 2 * (M % 2 ^ D) ∧ (b = true ∨ M / 2 ^ D % 2 = 1)) then 1 else 0) := by
  have hp := pw_pos D
  refine ⟨?_, ?_, ?_⟩
  · unfold shl
    rw [IntKind.wrap_u64, Int.toNat_natCast, show min (64 - D) IntKind.u64.bits = 64 - D from Nat.min_eq_left (by show 64 - D ≤ 64; omega)]
    have e : (M : Int) * 2 ^ (64 - D) = ((M * 2 ^ (64 - D) : Nat) : Int) := by rw [Int.natCast_mul, Int.natCast_pow]; rfl
    rw [e]
    have e2 : (18446744073709551616 : Nat) = 2 ^ D * 2 ^ (64 - D) := by rw [← Nat.pow_add, show D + (64 - D) = 64 from by omega]
    have : (M * 2 ^ (64 - D)) % 18446744073709551616 = M % 2 ^ D * 2 ^ (64 - D) := by rw [e2, Nat.mul_mod_mul_right]
    omega
  · unfold shr
    rw [Int.toNat_natCast, show min (D - 1) IntKind.u64.bits = D - 1 from Nat.min_eq_left (by show D - 1 ≤ 64; omega)]
    have : M / 2 / 2 ^ (D - 1) = M / 2 ^ D := by rw [Nat.div_div_eq_div_mul, ← Nat.pow_succ', show (D - 1).succ = D from by omega]
    rw [← this, Int.natCast_ediv, Int.natCast_ediv, Int.natCast_pow]; rfl
  · unfold rne
    have hd := Nat.div_add_mod M (2 ^ D)
    have hm := Nat.mod_lt M hp
    have hb : b.toNat ≤ 1 := by cases b <;> decide
    have hp2 : 2 ^ (D + 1) = 2 * 2 ^ D := by rw [Nat.pow_succ, Nat.mul_comm]
    have e : 2 * M + b.toNat = 2 ^ (D + 1) * (M / 2 ^ D) + (2 * (M % 2 ^ D) + b.toNat) := by
      rw [hp2, Nat.mul_assoc]; omega
    rw [e, Nat.mul_add_div (pw_pos _), Nat.mul_add_mod, Nat.div_eq_of_lt (show 2 * (M % 2 ^ D) + b.toNat < 2 ^ (D + 1) by omega), Nat.mod_eq_of_lt (show 2 * (M % 2 ^ D) + b.toNat < 2 ^ (D + 1) by omega), Nat.add_zero, hp2]
    have hev : ∃ c, 2 ^ D = 2 * c := ⟨2 ^ (D - 1), by rw [← Nat.pow_succ', show (D - 1).succ = D from by omega]⟩
    obtain ⟨c, hc⟩ := hev
    congr 1
    clear e hp2 hd
    generalize M % 2 ^ D = r at *
    generalize M / 2 ^ D = m at *
    rw [hc]
    rw [hc] at hm
    clear hp
    cases b
    · simp only [Bool.toNat, cond_false, Nat.add_zero, Bool.false_eq_true, false_or]
      by_cases x : 2 * c < 2 * r ∨ (2 * c = 2 * r ∧ m % 2 = 1)
      · rw [if_pos x, if_pos (by omega)]
      · rw [if_neg x, if_neg (by omega)]
    · simp only [Bool.toNat, cond_true, true_or, and_true]
      by_cases x : 2 * c < 2 * r ∨ 2 * c = 2 * r
      · rw [if_pos (by omega), if_pos (by omega)]
      · rw [if_neg (by omega), if_neg (by omega)]
theorem odd_bit (m : Nat) (hm : m < 18446744073709551616) : (Go.bits .and .u64 (m : Int) 1 = 1) = (m % 2 = 1) := by
  have := and_mask m 1 hm (by decide)
  rw [show ((2 ^ 1 : Nat) - 1 : Int) = 1 from by decide] at this
  rw [this, Nat.pow_one]
  apply propext
  omega
/-- The rounding itself, of a power that is not out of reach. -/
theorem c_round_in {p q f} (h : Pq p q f) (neg : Bool) (M : Nat) (hM : M < 18446744073709551616) (h0 : M ≠ 0) (e : Int) (he : -5000 ≤ e ∧ e ≤ 5000) (more : Bool) (hm : more = true → 288230376151711744 ≤ M) (a3 : Int) (ha : mn (mx a3 (-5000)) 5000 = e) (k : Nat) :
    ff_round.f (k + 2) p q neg M a3 more = some ((f.nearest neg (2 * M + more.toNat) (e - 1) : Nat) : Int) := by
  obtain ⟨w1, w2, w3, w4, w5, w6, w7, w8, w9, w10, w11, w12⟩ := c_w h
  have hb : more.toNat ≤ 1 := by cases more <;> decide
  have hlog : M.log2 ≤ 63 := by have := (Nat.log2_lt (n := M) (k := 64) h0).2 hM; omega
  have hlogN : (2 * M + more.toNat).log2 = M.log2 + 1 := by
    have h1 := Nat.log2_self_le h0
    have h2 : M < 2 ^ (M.log2 + 1) := Nat.lt_log2_self
    refine (Nat.log2_eq_iff (by omega)).2 ⟨?_, ?_⟩
    · rw [Nat.pow_succ]; omega
    · rw [Nat.pow_succ 2 (M.log2 + 1)]; omega
  have hlast : lastOf f (2 * M + more.toNat) (e - 1) = lastOf f M e := by unfold lastOf; rw [hlogN]; omega
  have hNe := nearest_eq f neg (2 * M + more.toNat) (e - 1) (by omega)
  have kb := kept_bounds f (2 * M + more.toNat) (e - 1) (by omega)
  rw [hlast] at hNe kb
  have hLge : f.leastPlace ≤ lastOf f M e := by unfold lastOf; omega
  have hLle : lastOf f M e ≤ 5100 := by unfold lastOf; omega
  have hLge2 : -5100 ≤ lastOf f M e - e ∧ lastOf f M e - e ≤ 5100 := by unfold lastOf; omega
  rw [hNe]
  have fin : ∀ K : Nat, K = rneP (2 * M + more.toNat) (e - 1 - lastOf f M e) → ff_round.j0 (k + 2) neg (K : Int) e (lastOf f M e - e) p q =
      some ((f.word neg (min ((lastOf f M e - f.leastPlace).toNat * f.binade + rneP (2 * M + more.toNat) (e - 1 - lastOf f M e)) f.infRung) : Nat) : Int) := by
    intro K hK
    rw [← hK] at kb ⊢
    exact c_j0 h neg K (lastOf f M e) e he hLge hLle kb.1 kb.2 k
  have hD : wrap64 (mx (wrap64 (wrap64 (wrap64 ((((M.log2 + 1 : Nat) : Int)) + e) - 1) - p)) f.leastPlace - e) = lastOf f M e - e := by
    unfold wrap64 mx lastOf
    rw [w1]
    split <;> omega
  unfold ff_round.f
  rw [if_neg (by omega), c_len M hM h0, c_least h, ha]
  simp only [Option.bind_some]
  rw [hD]
  obtain ⟨L, hL⟩ : ∃ L, L = lastOf f M e := ⟨_, rfl⟩
  rw [← hL] at fin hLge2 ⊢
  have hk1 : ¬ L - e ≤ 0 → 1 ≤ (L - e).toNat := by omega
  by_cases c1 : L - e ≤ 0
  · rw [if_pos c1, if_pos (by rw [IntKind.wrap_u64]; omega)]
    -- nothing is dropped: a little more there would have dropped digits
    have hmf : more = false := by
      cases hmo : more
      · rfl
      · have := hm hmo
        have : 58 ≤ M.log2 := (Nat.le_log2 h0).2 (by show 2 ^ 58 ≤ M; omega)
        exfalso
        unfold lastOf at hL
        omega
    subst hmf
    obtain ⟨d, hd⟩ : ∃ d : Nat, L - e = -(d : Int) := ⟨(-(L - e)).toNat, by omega⟩
    have hkept : rneP (2 * M + false.toNat) (e - 1 - L) = M * 2 ^ d := by
      have s := rneP_scale M 1 (e - 1 - L)
      rw [Nat.pow_one, Nat.mul_comm] at s
      show rneP (2 * M) _ = _
      rw [s]
      unfold rneP
      rw [show (e - 1 - L + ((1 : Nat) : Int)).toNat = d from by omega, show (-(e - 1 - L + ((1 : Nat) : Int))).toNat = 0 from by omega, rne_zero]
    have hdl : d ≤ 64 := by
      unfold lastOf at hL
      omega
    have hlt : M * 2 ^ d < 18446744073709551616 := by
      have := kb.1
      rw [← hL, hkept] at this
      omega
    have e1 : shl .u64 (M : Int) (IntKind.u64.wrap (wrap64 (-(L - e)))) = ((M * 2 ^ d : Nat) : Int) := by
      rw [show IntKind.u64.wrap (wrap64 (-(L - e))) = (d : Int) from by rw [IntKind.wrap_u64]; unfold wrap64; omega]
      exact shl_nat M d hlt hdl
    rw [e1]
    exact fin _ hkept.symm
  · rw [if_neg c1]
    obtain ⟨D, hD⟩ : ∃ D : Nat, L - e = (D : Int) := ⟨(L - e).toNat, by omega⟩
    have hkept : rneP (2 * M + more.toNat) (e - 1 - L) = rne (2 * M + more.toNat) (D + 1) := by
      unfold rneP
      rw [show (e - 1 - L).toNat = 0 from by omega, show (-(e - 1 - L)).toNat = D + 1 from by omega, Nat.pow_zero, Nat.mul_one]
    by_cases c2 : L - e > 64
    · rw [if_pos c2]
      have hz : rneP (2 * M + more.toNat) (e - 1 - L) = 0 := by
        rw [hkept]
        apply rne_small
        have : 2 ^ 66 ≤ 2 ^ (D + 1) := Nat.pow_le_pow_right (by decide) (by omega)
        omega
      exact fin 0 hz.symm
    · rw [if_neg c2, if_pos (by rw [IntKind.wrap_u64]; omega), if_pos (by rw [IntKind.wrap_u64]; omega)]
      have hD1 : 1 ≤ D := by omega
      have hD2 : D ≤ 64 := by omega
      obtain ⟨u1, u2, u3⟩ := kept_up M D more hD1 hD2 hM
      rw [show IntKind.u64.wrap (wrap64 (64 - (L - e))) = ((64 - D : Nat) : Int) from by rw [IntKind.wrap_u64]; unfold wrap64; omega,
        show IntKind.u64.wrap (wrap64 (L - e - 1)) = ((D - 1 : Nat) : Int) from by rw [IntKind.wrap_u64]; unfold wrap64; omega]
      rw [u1, u2]
      have e2 : (18446744073709551616 : Nat) = 2 ^ D * 2 ^ (64 - D) := by rw [← Nat.pow_add, show D + (64 - D) = 64 from by omega]
      have hp2 := pw_pos (64 - D)
      have gt : ((M % 2 ^ D * 2 ^ (64 - D) : Nat) : Int) > 9223372036854775808 ↔ 2 ^ D < 2 * (M % 2 ^ D) := by
        constructor
        · intro x
          have : 2 ^ D * 2 ^ (64 - D) < 2 * (M % 2 ^ D) * 2 ^ (64 - D) := by rw [← e2, Nat.mul_assoc]; omega
          exact Nat.lt_of_mul_lt_mul_right this
        · intro x
          have : 2 ^ D * 2 ^ (64 - D) < 2 * (M % 2 ^ D) * 2 ^ (64 - D) := Nat.mul_lt_mul_of_pos_right x hp2
          rw [← e2, Nat.mul_assoc] at this
          omega
      have eq : ((M % 2 ^ D * 2 ^ (64 - D) : Nat) : Int) = 9223372036854775808 ↔ 2 ^ D = 2 * (M % 2 ^ D) := by
        constructor
        · intro x
          have : 2 ^ D * 2 ^ (64 - D) = 2 * (M % 2 ^ D) * 2 ^ (64 - D) := by rw [← e2, Nat.mul_assoc]; omega
          exact Nat.eq_of_mul_eq_mul_right hp2 this
        · intro x
          have : 2 ^ D * 2 ^ (64 - D) = 2 * (M % 2 ^ D) * 2 ^ (64 - D) := congrArg (fun z => z * 2 ^ (64 - D)) x
          rw [← e2, Nat.mul_assoc] at this
          omega
      have hmle : M / 2 ^ D < 18446744073709551616 := Nat.lt_of_le_of_lt (Nat.div_le_self _ _) hM
      have hmle2 : M / 2 ^ D ≤ 9223372036854775808 := by
        have : M / 2 ^ D ≤ M / 2 ^ 1 := Nat.div_le_div_left (Nat.pow_le_pow_right (by decide) hD1) (by decide)
        omega
      have ew : IntKind.u64.wrap (((M / 2 ^ D : Nat) : Int) + 1) = ((M / 2 ^ D + 1 : Nat) : Int) := by
        generalize M / 2 ^ D = m at hmle2
        rw [IntKind.wrap_u64]; omega
      rw [ew]
      have ob : Go.bits .and .u64 ((M / 2 ^ D : Nat) : Int) 1 = 1 ↔ M / 2 ^ D % 2 = 1 := iff_of_eq (odd_bit _ hmle)
      by_cases g1 : 2 ^ D < 2 * (M % 2 ^ D)
      · rw [if_pos (gt.2 g1)]
        exact fin _ (by rw [hkept, u3, if_pos (.inl g1)])
      · rw [if_neg (fun x => g1 (gt.1 x))]
        by_cases g2 : 2 ^ D = 2 * (M % 2 ^ D)
        · rw [if_pos (eq.2 g2)]
          cases hmo : more
          · rw [hmo] at fin hkept u3
            rw [if_neg (by decide)]
            by_cases g3 : M / 2 ^ D % 2 = 1
            · rw [if_pos (ob.2 g3)]
              exact fin _ (by rw [hkept, u3, if_pos (.inr ⟨g2, .inr g3⟩)])
            · rw [if_neg (fun x => g3 (ob.1 x))]
              exact fin _ (by rw [hkept, u3, if_neg (by rintro (x | ⟨_, x | x⟩) <;> first | (exact g1 x) | (cases x; done) | (exact g3 x)), Nat.add_zero])
          · rw [hmo] at fin hkept u3
            rw [if_pos rfl]
            exact fin _ (by rw [hkept, u3, if_pos (.inr ⟨g2, .inl rfl⟩)])
        · rw [if_neg (fun x => g2 (eq.1 x))]
          exact fin _ (by rw [hkept, u3, if_neg (by rintro (x | ⟨x, _⟩) <;> first | (exact g1 x) | (exact g2 x)), Nat.add_zero])
/-- The rounding: the float nearest to the number, whatever the power. -/
theorem c_round {p q f} (h : Pq p q f) (neg : Bool) (M : Nat) (hM : M < 18446744073709551616) (e : Int) (more : Bool) (hm : more = true → 288230376151711744 ≤ M) (k : Nat) :
    ff_round.f (k + 2) p q neg M e more = some ((f.nearest neg (2 * M + more.toNat) (e - 1) : Nat) : Int) := by
  obtain ⟨w1, w2, w3, w4, w5, w6, w7, w8, w9, w10, w11, w12⟩ := c_w h
  by_cases h0 : M = 0
  · subst h0
    have : more = false := by
      cases hmo : more
      · rfl
      · have := hm hmo; omega
    subst this
    unfold ff_round.f
    rw [if_pos (by rfl)]
    have := c_signed h neg 0 (by omega)
    rw [show ((0 : Nat) : Int) = 0 from rfl] at this
    rw [this]
    simp only [Option.bind_some]
    rw [show 2 * 0 + false.toNat = 0 from rfl, nearest_zero]
  · have hb : more.toNat ≤ 1 := by cases more <;> decide
    have hlogN : (2 * M + more.toNat).log2 ≤ 64 := by
      have := (Nat.log2_lt (n := 2 * M + more.toNat) (k := 65) (by omega)).2 (by show _ < 2 ^ 65; omega); omega
    by_cases c1 : e > 5000
    · rw [c_round_in h neg M hM h0 5000 (by decide) more hm e (by unfold mn mx; (repeat' split) <;> omega) k]
      have h2 : f.leastPlace + 2 ^ f.exponentBits + f.fractionBits ≤ 4999 := by
        have : (2 : Int) ^ f.exponentBits ≤ 2048 := by
          have : ((2 ^ f.exponentBits : Nat) : Int) = (2 : Int) ^ f.exponentBits := by rw [Int.natCast_pow]; rfl
          have : 2 ^ f.exponentBits ≤ 2 ^ 11 := Nat.pow_le_pow_right (by decide) w5
          omega
        omega
      rw [nearest_big f neg _ (5000 - 1) (by omega) (by omega), nearest_big f neg _ (e - 1) (by omega) (by omega)]
    · by_cases c2 : e < -5000
      · rw [c_round_in h neg M hM h0 (-5000) (by decide) more hm e (by unfold mn mx; (repeat' split) <;> omega) k]
        rw [nearest_small f neg _ (-5000 - 1) (by omega) (Nat.zero_le _), nearest_small f neg _ (e - 1) (by omega) (Nat.zero_le _)]
      · exact c_round_in h neg M hM h0 e (by omega) more hm e (by unfold mn mx; (repeat' split) <;> omega) k
/-- The same, of any more rounds than two. -/
theorem c_round' {p q f} (h : Pq p q f) (neg : Bool) (M : Nat) (hM : M < 18446744073709551616) (e : Int) (more : Bool) (hm : more = true → 288230376151711744 ≤ M) (k : Nat) (hk : 2 ≤ k) :
    ff_round.f k p q neg M e more = some ((f.nearest neg (2 * M + more.toNat) (e - 1) : Nat) : Int) := by
  obtain ⟨k, rfl⟩ : ∃ m, k = m + 2 := ⟨k - 2, by omega⟩
  exact c_round h neg M hM e more hm k
end Go.Proofs.Ytjfmomogidgbpaa.Pure
namespace Go.Proofs.Ytjfmomogidgbpaa.Pure
set_option linter.unusedVariables false
set_option linter.unusedSimpArgs false
open Go.RowKit Go.Proofs.Ytjfmomogidgbpaa.PFl Go.Proofs.Ytjfmomogidgbpaa.Fl Go.Proofs.YtjfmomogidgbpaaW.PrintWords
theorem or_nat (x y : Nat) (hx : x < 18446744073709551616) (hy : y < 18446744073709551616) : Go.bits .or .u64 (x : Int) (y : Int) = ((x ||| y : Nat) : Int) := by
  unfold Go.bits
  have hb : IntKind.bits .u64 = 64 := rfl
  simp only
  rw [IntKind.wrap_u64, BitVec.toNat_or, BitVec.ofInt_natCast, BitVec.ofInt_natCast, BitVec.toNat_ofNat, BitVec.toNat_ofNat, hb,
    Nat.mod_eq_of_lt (show x < 2 ^ 64 from hx), Nat.mod_eq_of_lt (show y < 2 ^ 64 from hy)]
  have : x ||| y < 2 ^ 64 := Nat.or_lt_two_pow hx hy
  omega
theorem or_one (x : Nat) (hx : x < 18446744073709551616) : Go.bits .or .u64 (x : Int) 1 = ((x / 2 * 2 + 1 : Nat) : Int) := by
  have := or_nat x 1 hx (by decide)
  rw [show ((1 : Nat) : Int) = 1 from rfl] at this
  rw [this]
  have e : x ||| 1 = x / 2 * 2 + 1 := by
    have h : 2 ^ 1 * (x / 2) ||| (x % 2 ||| 1) = 2 ^ 1 * (x / 2) + (x % 2 ||| 1) := by
      exact (Nat.two_pow_add_eq_or_of_lt (by rcases Nat.mod_two_eq_zero_or_one x with h | h <;> rw [h] <;> decide) (x / 2)).symm
    have h2 : x = 2 ^ 1 * (x / 2) ||| x % 2 := by
      rw [← Nat.two_pow_add_eq_or_of_lt (Nat.mod_lt _ (by decide)) (x / 2)]
      omega
    conv => lhs; rw [h2, Nat.or_assoc, h]
    rcases Nat.mod_two_eq_zero_or_one x with h | h <;> rw [h]
    · show 2 ^ 1 * (x / 2) + 1 = _; omega
    · show 2 ^ 1 * (x / 2) + 1 = _; omega
  rw [e]
theorem word_of (f : Ieee.Format) (A : Nat) (h : A < 2 * f.signWeight) : f.word (negOf f A) (rungOf f A) = A := by
  have hs : 0 < f.signWeight := pw_pos _
  unfold Ieee.Format.word negOf rungOf
  have hd := Nat.div_add_mod A f.signWeight
  have hm := Nat.mod_lt A hs
  by_cases c : A < f.signWeight
  · rw [Nat.div_eq_of_lt c, Nat.mod_eq_of_lt c]; rfl
  · have h1 : A / f.signWeight = 1 := (Nat.div_eq_iff hs).2 ⟨by omega, by omega⟩
    rw [h1] at hd ⊢
    rw [if_pos (by rfl)]
    omega
theorem c_parts {p q f} (h : Pq p q f) (A : Nat) (hA : A < 18446744073709551616) :
    ff_parts.f p q A = some ((magOf f (rungOf f A) : Int), f.leastPlace + (plOf f (rungOf f A) : Int)) := by
  obtain ⟨w1, w2, w3, w4, w5, w6, w7, w8, w9, w10, w11, w12⟩ := c_w h
  have hr : rungOf f A < f.signWeight := Nat.mod_lt _ (pw_pos _)
  have hb : 0 < f.binade := pw_pos _
  generalize hR : rungOf f A = r at *
  have e1 : IntKind.u64.wrap p = (f.fractionBits : Int) := by rw [IntKind.wrap_u64, w1]; omega
  have e2 : shr .u64 (r : Int) (f.fractionBits : Int) = ((r / f.binade : Nat) : Int) := shr_nat r f.fractionBits (by omega)
  have e3 : shl .u64 1 (f.fractionBits : Int) = (f.binade : Int) := by
    have := shl_nat 1 f.fractionBits (by rw [Nat.one_mul]; exact Nat.lt_of_le_of_lt w10 (by decide)) (by omega)
    rw [Nat.one_mul] at this
    exact this
  have e4 : Go.bits .and .u64 (r : Int) (IntKind.u64.wrap ((f.binade : Int) - 1)) = ((r % f.binade : Nat) : Int) := by
    rw [IntKind.wrap_u64, show ((f.binade : Int) - 1) % 18446744073709551616 = (f.binade : Int) - 1 from by omega]
    exact and_mask r f.fractionBits (by omega) (by omega)
  have hx : r / f.binade ≤ r := Nat.div_le_self _ _
  have hx2 : r / f.binade < 4096 := by
    refine (Nat.div_lt_iff_lt_mul hb).2 ?_
    rw [w11] at hr
    have : 2 ^ f.exponentBits ≤ 2 ^ 11 := Nat.pow_le_pow_right (by decide) w5
    have := Nat.mul_le_mul_right f.binade this
    omega
  have hm : r % f.binade < f.binade := Nat.mod_lt _ hb
  unfold ff_parts.f
  rw [c_size h A hA, hR]
  simp only [Option.bind_some]
  rw [if_pos (by rw [IntKind.wrap_u64]; omega), e1, e2, e3, e4, c_least h]
  simp only [Option.bind_some]
  rw [show wrap64 ((r / f.binade : Nat) : Int) = ((r / f.binade : Nat) : Int) from by
    generalize r / f.binade = z at *
    unfold wrap64; omega]
  have zl : r < f.binade ↔ r / f.binade = 0 := by
    constructor
    · exact Nat.div_eq_of_lt
    · intro e
      have := Nat.div_add_mod r f.binade
      rw [e] at this; omega
  by_cases c : r < f.binade
  · have z := zl.1 c
    rw [if_pos (by rw [z]; rfl)]
    unfold magOf plOf
    rw [if_pos c, z, Nat.mod_eq_of_lt c]
    refine congrArg some (Prod.ext rfl ?_)
    show f.leastPlace = f.leastPlace + ((0 - 1 : Nat) : Int)
    omega
  · have z := mt zl.2 c
    rw [if_neg (by omega)]
    unfold magOf plOf
    rw [if_neg c]
    have e5 : Go.bits .or .u64 ((r % f.binade : Nat) : Int) (f.binade : Int) = ((f.binade + r % f.binade : Nat) : Int) := or_top (r % f.binade) f.fractionBits hm (by omega)
    rw [e5]
    refine congrArg some (Prod.ext rfl ?_)
    show wrap64 (wrap64 (f.leastPlace + ((r / f.binade : Nat) : Int)) - 1) = _
    generalize r / f.binade = y at *
    unfold wrap64
    omega
/-- How the program tells which one is less. -/
def lessF (f : Ieee.Format) (A B : Nat) : Bool :=
  if rungOf f A = 0 ∧ rungOf f B = 0 then false else if negOf f A ≠ negOf f B then negOf f A else if negOf f A then decide (rungOf f B < rungOf f A) else decide (rungOf f A < rungOf f B)
theorem lessF_order (f : Ieee.Format) (A B : Nat) (hi : f.binade ≤ f.infRung) (hA : rungOf f A ≤ f.infRung) (hB : rungOf f B ≤ f.infRung) : (f.order A B == some .lt) = lessF f A B := by
  rw [order_key f A B hi hA hB]
  have cmp : ∀ a b : Int, compare a b = if a < b then .lt else if a = b then .eq else .gt := fun a b => rfl
  have e : (some (compare (Fl.keyOf f A) (Fl.keyOf f B)) == some Ordering.lt) = decide (Fl.keyOf f A < Fl.keyOf f B) := by
    rw [cmp]
    by_cases l : Fl.keyOf f A < Fl.keyOf f B
    · rw [if_pos l, decide_eq_true l]; rfl
    · rw [if_neg l, decide_eq_false l]
      by_cases m : Fl.keyOf f A = Fl.keyOf f B
      · rw [if_pos m]; rfl
      · rw [if_neg m]; rfl
  rw [e]
  unfold lessF Fl.keyOf
  by_cases z : rungOf f A = 0 ∧ rungOf f B = 0
  · rw [if_pos z, z.1, z.2]
    cases negOf f A <;> cases negOf f B <;> rfl
  · rw [if_neg z]
    cases negOf f A <;> cases negOf f B <;> simp only [Bool.false_eq_true, if_false, if_true, ne_eq, not_true_eq_false, not_false_eq_true, reduceCtorEq]
    · rw [decide_eq_decide]; omega
    · rw [decide_eq_false (by omega)]
    · rw [decide_eq_true (by omega)]
    · rw [decide_eq_decide]; omega
/-- A result, or the NaN that is answered. -/
def resP (p : Int) : Option Nat → Int
  | some r => r
  | none => if p = 23 then canon 32 else canon 64
theorem c_nanv {p q f} (h : Pq p q f) : ff_nan.f p q = some (resP p none) := by
  rcases h with ⟨rfl, rfl, rfl⟩ | ⟨rfl, rfl, rfl⟩ <;> decide +kernel
theorem write_inf (f : Ieee.Format) (A : Nat) (h : A < 2 * f.signWeight) (hi : rungOf f A = f.infRung) : f.write (.infinity (negOf f A)) = A := by
  show f.word (negOf f A) f.infRung = A
  rw [← hi]; exact word_of f A h
theorem nearest_word (f : Ieee.Format) (A : Nat) (h : A < 2 * f.signWeight) (hw : f.binade ≤ f.infRung) (hi : rungOf f A < f.infRung) :
    f.nearest (negOf f A) (magOf f (rungOf f A)) (f.leastPlace + (plOf f (rungOf f A) : Nat)) = A := by
  rw [nearest_read f _ _ hw hi]; exact word_of f A h
end Go.Proofs.Ytjfmomogidgbpaa.Pure
namespace Go.Proofs.Ytjfmomogidgbpaa.Pure
set_option linter.unusedVariables false
set_option linter.unusedSimpArgs false
open Go.RowKit Go.Proofs.Ytjfmomogidgbpaa.PFl Go.Proofs.Ytjfmomogidgbpaa.Fl Go.Proofs.YtjfmomogidgbpaaW.PrintWords
/-- One half of a long division: the digit that is tried is brought down to the quotient's. -/
structure Kn (y H : Nat) (q r : Nat) : Prop where
  top : 9223372036854775808 ≤ y
  lt : y < 18446744073709551616
  le : H < y
  sum : q * (y / 4294967296) + r = H
  big : q ≤ 4294967297
/-- The test of the loop says just whether the digit is too great. -/
theorem Kn.test {y H q r : Nat} (h : Kn y H q r) : 4294967296 * r < q * (y % 4294967296) ↔ H * 4294967296 / y < q := by
  have hy : 0 < y := by have := h.top; omega
  have hd := Nat.div_add_mod y 4294967296
  have hs := h.sum
  have e1 : q * y = q * (y / 4294967296) * 4294967296 + q * (y % 4294967296) := by
    conv => lhs; rw [← hd, Nat.mul_add]
    congr 1
    ac_rfl
  have e2 : H * 4294967296 = q * (y / 4294967296) * 4294967296 + 4294967296 * r := by
    rw [← hs, Nat.add_mul, Nat.mul_comm r]
  rw [Nat.div_lt_iff_lt_mul hy]
  omega
theorem Kn.step {y H q r : Nat} (h : Kn y H q r) (hq : H * 4294967296 / y < q) : Kn y H (q - 1) (r + y / 4294967296) := by
  refine ⟨h.top, h.lt, h.le, ?_, by have := h.big; omega⟩
  have hs := h.sum
  have hq0 : 0 < q := Nat.lt_of_le_of_lt (Nat.zero_le _) hq
  obtain ⟨c, rfl⟩ : ∃ c, q = c + 1 := ⟨q - 1, by omega⟩
  rw [show c + 1 - 1 = c from by omega]
  rw [Nat.add_mul, Nat.one_mul] at hs
  omega
/-- A rest that is great ends the loop: the digit is the quotient's. -/
theorem Kn.stop {y H q r : Nat} (h : Kn y H q r) (hr : 4294967296 ≤ r) (hq : q ≤ 4294967296) : ¬ H * 4294967296 / y < q := by
  rw [← h.test]
  have : q * (y % 4294967296) ≤ 4294967296 * 4294967295 := Nat.mul_le_mul hq (by omega)
  omega
theorem Kn.two {y H q r : Nat} (h : Kn y H q r) : q ≤ H * 4294967296 / y + 2 := by
  apply Classical.byContradiction; intro c
  have h1 : H * 4294967296 / y < q := by omega
  have s1 := h.step h1
  have h2 : H * 4294967296 / y < q - 1 := by omega
  have s2 := s1.step h2
  have hy := h.top
  have := h.big
  have hq : 2 ≤ q := by
    have := Nat.zero_le (H * 4294967296 / y); omega
  have st := s2.stop (by omega) (by omega)
  omega
theorem c_lz (M : Nat) (hM : M < 18446744073709551616) (h0 : M ≠ 0) : bits_LeadingZeros64.f (M : Int) = some ((63 - M.log2 : Nat) : Int) := by
  have hlog : M.log2 ≤ 63 := by have := (Nat.log2_lt (n := M) (k := 64) h0).2 hM; omega
  unfold bits_LeadingZeros64.f
  rw [c_len M hM h0]
  simp only [Option.bind_some]
  rw [show wrap64 (64 - ((M.log2 + 1 : Nat) : Int)) = ((63 - M.log2 : Nat) : Int) from by unfold wrap64; omega]
end Go.Proofs.Ytjfmomogidgbpaa.Pure
namespace Go.Proofs.Ytjfmomogidgbpaa.Pure
set_option linter.unusedVariables false
set_option linter.unusedSimpArgs false
open Go.RowKit Go.Proofs.Ytjfmomogidgbpaa.PFl Go.Proofs.Ytjfmomogidgbpaa.Fl Go.Proofs.YtjfmomogidgbpaaW.PrintWords
theorem or_zero (x y : Nat) (hx : x < 18446744073709551616) (hy : y < 18446744073709551616) : Go.bits .or .u64 (x : Int) (y : Int) = 0 ↔ x = 0 ∧ y = 0 := by
  rw [or_nat x y hx hy]
  constructor
  · intro h
    have h2 : x ||| y = 0 := by omega
    have h3 : x ≤ x ||| y := Nat.left_le_or
    have h4 : y ≤ x ||| y := Nat.right_le_or
    omega
  · rintro ⟨rfl, rfl⟩; rfl
theorem c_less {p q f} (h : Pq p q f) (A B : Nat) (hA : A < 18446744073709551616) (hB : B < 18446744073709551616) : ff_less.f p q A B = some (lessF f A B) := by
  obtain ⟨w1, w2, w3, w4, w5, w6, w7, w8, w9, w10, w11, w12⟩ := c_w h
  have rA : rungOf f A < f.signWeight := Nat.mod_lt _ (pw_pos _)
  have rB : rungOf f B < f.signWeight := Nat.mod_lt _ (pw_pos _)
  unfold ff_less.f lessF
  rw [c_size h A hA, c_size h B hB, c_neg h A hA, c_neg h B hB]
  simp only [Option.bind_some]
  by_cases z : rungOf f A = 0 ∧ rungOf f B = 0
  · rw [if_pos ((or_zero _ _ (by omega) (by omega)).2 z), if_pos z]
  · rw [if_neg (fun x => z ((or_zero _ _ (by omega) (by omega)).1 x)), if_neg z]
    cases negOf f A <;> cases negOf f B <;> simp only [bne_self_eq_false, Bool.false_eq_true, if_false, if_true, ne_eq, not_true_eq_false, not_false_eq_true, reduceCtorEq, Bool.true_bne, Bool.false_bne, Bool.not_true, Bool.not_false]
    · refine congrArg some ?_
      rw [decide_eq_decide]; omega
    · refine congrArg some ?_
      rw [decide_eq_decide]; omega
end Go.Proofs.Ytjfmomogidgbpaa.Pure
namespace Go.Proofs.Ytjfmomogidgbpaa.Pure
set_option linter.unusedVariables false
set_option linter.unusedSimpArgs false
open Go.RowKit Go.Proofs.Ytjfmomogidgbpaa.PFl Go.Proofs.Ytjfmomogidgbpaa.Fl Go.Proofs.YtjfmomogidgbpaaW.PrintWords
/-- A size that is right, its format, and what is told of both. -/
structure Sz (n p q : Int) (f : Ieee.Format) : Prop where
  ok : n = 32 ∨ n = 64
  pq : Pq p q f
  of : floats_of.f n = some (p, q)
  fm : fmtOf n = f
  sg : sgnI n = (f.signWeight : Int)
  res : ∀ o, resP p o = resOf n o
  cut : ∀ a : Nat, a < 18446744073709551616 → a % (2 * f.signWeight) = wOf n (a : Int)
theorem sz (n : Int) (h : n = 32 ∨ n = 64) : ∃ p q f, Sz n p q f := by
  rcases h with rfl | rfl
  · refine ⟨23, 8, Ieee.single, .inl rfl, .inl ⟨rfl, rfl, rfl⟩, rfl, rfl, by decide +kernel, ?_, ?_⟩
    · intro o; cases o <;> rfl
    · intro a ha
      rw [s_sgn]
      show a % 4294967296 = ((a : Int) % 4294967296).toNat
      omega
  · refine ⟨52, 11, Ieee.double, .inr rfl, .inr ⟨rfl, rfl, rfl⟩, rfl, rfl, by decide +kernel, ?_, ?_⟩
    · intro o; cases o <;> rfl
    · intro a ha
      rw [d_sgn]
      show a % 18446744073709551616 = (a : Int).toNat
      omega
theorem Sz.lt {n p q f} (h : Sz n p q f) (a : Nat) (ha : a < 18446744073709551616) : wOf n (a : Int) < 2 * f.signWeight := by
  rw [← h.cut a ha]
  exact Nat.mod_lt _ (by have : 0 < f.signWeight := pw_pos _
                         omega)
theorem of_wrong (n : Int) (h : n ≠ 32) (h' : n ≠ 64) : floats_of.f n = some (0, 0) := by
  unfold floats_of.f; rw [if_neg h, if_neg h']
theorem none_wrong : ff_none.f 0 0 = some true := by decide +kernel
theorem Sz.none {n p q f} (h : Sz n p q f) : ff_none.f p q = some false := c_none h.pq
/-- The opposite's bits. -/
theorem xor_sign {p q f} (h : Pq p q f) (B : Nat) (hB : B < 2 * f.signWeight) :
    Go.bits .xor .u64 (B : Int) (f.signWeight : Int) = ((f.word (!negOf f B) (rungOf f B) : Nat) : Int) := by
  obtain ⟨k, hk, hk2, e⟩ := sgn_pow h
  obtain ⟨w1, w2, w3, w4, w5, w6, w7, w8, w9, w10, w11, w12⟩ := c_w h
  have rB : rungOf f B < f.signWeight := Nat.mod_lt _ (pw_pos _)
  have eB := word_of f B hB
  unfold Go.bits
  have hb : IntKind.bits .u64 = 64 := rfl
  have hs : f.signWeight < 2 ^ 64 := by omega
  have hBl : B < 2 ^ 64 := by omega
  simp only
  rw [IntKind.wrap_u64, BitVec.toNat_xor, BitVec.ofInt_natCast, BitVec.ofInt_natCast, BitVec.toNat_ofNat, BitVec.toNat_ofNat, hb, Nat.mod_eq_of_lt hBl, Nat.mod_eq_of_lt hs]
  have ex : B ^^^ f.signWeight = f.word (!negOf f B) (rungOf f B) := by
    rw [e] at rB ⊢
    have w0 : ∀ r, f.word false r = r := fun r => rfl
    have wt : ∀ r, f.word true r = 2 ^ k + r := fun r => by rw [← e]; rfl
    have o : ∀ r, r < 2 ^ k → r ^^^ 2 ^ k = 2 ^ k + r := by
      intro r hr
      have h1 := Nat.two_pow_add_eq_or_of_lt hr 1
      rw [Nat.mul_one] at h1
      rw [h1, Nat.xor_comm]
      apply Nat.eq_of_testBit_eq
      intro i
      rw [Nat.testBit_xor, Nat.testBit_or, Nat.testBit_two_pow]
      by_cases c : k = i
      · subst c
        rw [Nat.testBit_lt_two_pow hr]; simp
      · simp [c]
    cases hn : negOf f B
    · rw [hn, w0] at eB
      rw [← eB]
      show rungOf f B ^^^ 2 ^ k = f.word true _
      have : rungOf f (rungOf f B) = rungOf f B := by unfold rungOf; rw [Nat.mod_mod]
      rw [this, wt, o _ rB]
    · rw [hn, wt] at eB
      have : B ^^^ 2 ^ k = rungOf f B := by
        conv => lhs; rw [← eB]
        rw [← o _ rB, Nat.xor_assoc, Nat.xor_self, Nat.xor_zero]
      rw [this]; rfl
  rw [ex]
  have : f.word (!negOf f B) (rungOf f B) < 18446744073709551616 := by
    unfold Ieee.Format.word; split <;> omega
  omega
theorem Sz.neg_le {n p q f} (h : Sz n p q f) (A : Nat) (hA : A < 2 * f.signWeight) : negOf f A = true ↔ sgnI n ≤ (A : Int) := by
  rw [h.sg]
  have hs : 0 < f.signWeight := pw_pos _
  unfold negOf
  rw [beq_iff_eq]
  by_cases c : A < f.signWeight
  · rw [Nat.div_eq_of_lt c]; omega
  · have h1 : A / f.signWeight = 1 := (Nat.div_eq_iff hs).2 ⟨by omega, by omega⟩
    rw [h1]; omega
end Go.Proofs.Ytjfmomogidgbpaa.Pure
namespace Go.Proofs.Ytjfmomogidgbpaa.Pure
set_option linter.unusedVariables false
set_option linter.unusedSimpArgs false
open Go.RowKit Go.Proofs.Ytjfmomogidgbpaa.PFl Go.Proofs.Ytjfmomogidgbpaa.Fl Go.Proofs.YtjfmomogidgbpaaW.PrintWords
set_option maxRecDepth 100000 in
theorem awake_ok : bl_awake.f 100 = some true := by decide +kernel
end Go.Proofs.Ytjfmomogidgbpaa.Pure
namespace Go.Proofs.Ytjfmomogidgbpaa.Pure
set_option linter.unusedVariables false
set_option linter.unusedSimpArgs false
open Go.RowKit Go.Proofs.Ytjfmomogidgbpaa.PFl Go.Proofs.Ytjfmomogidgbpaa.Fl Go.Proofs.YtjfmomogidgbpaaW.PrintWords
theorem Sz.same {n p q f} (h : Sz n p q f) (a : Nat) (ha : a < 18446744073709551616) : rungOf f a = rungOf f (wOf n (a : Int)) ∧ negOf f a = negOf f (wOf n (a : Int)) := by
  rw [← h.cut a ha]
  have hs : 0 < f.signWeight := pw_pos _
  have hd := Nat.div_add_mod a (2 * f.signWeight)
  have hm := Nat.mod_lt a (show 0 < 2 * f.signWeight by omega)
  generalize hq : a / (2 * f.signWeight) = x at *
  generalize hr : a % (2 * f.signWeight) = r at *
  have e : a = f.signWeight * (2 * x) + r := by rw [← hd]; have : 2 * f.signWeight * x = f.signWeight * (2 * x) := by ac_rfl
                                                omega
  constructor
  · unfold rungOf; rw [e, Nat.mul_add_mod]
  · unfold negOf
    rw [e, Nat.mul_add_div hs]
    have : (2 * x + r / f.signWeight) % 2 = r / f.signWeight % 2 := by omega
    rw [this]
theorem order_gt (f : Ieee.Format) (A B : Nat) (hi : f.binade ≤ f.infRung) (hA : rungOf f A ≤ f.infRung) (hB : rungOf f B ≤ f.infRung) :
    (f.order A B == some .gt) = lessF f B A ∧ (f.order A B == some .eq) = (!lessF f A B && !lessF f B A) ∧ (f.order A B == some .lt) = lessF f A B := by
  rw [← lessF_order f B A hi hB hA, ← lessF_order f A B hi hA hB, order_key f A B hi hA hB, order_key f B A hi hB hA]
  have cmp : ∀ a b : Int, compare a b = if a < b then .lt else if a = b then .eq else .gt := fun a b => rfl
  rw [cmp, cmp]
  generalize Fl.keyOf f A = x
  generalize Fl.keyOf f B = y
  by_cases l : x < y
  · rw [if_pos l, if_neg (by omega), if_neg (by omega)]; decide
  · rw [if_neg l]
    by_cases e : x = y
    · rw [if_pos e, if_neg (by omega), if_pos e.symm]; decide
    · rw [if_neg e, if_pos (by omega)]; decide
theorem lessF_same {n p q f} (S : Sz n p q f) (a b : Nat) (ha : a < 18446744073709551616) (hb : b < 18446744073709551616) : lessF f a b = lessF f (wOf n (a : Int)) (wOf n (b : Int)) := by
  unfold lessF
  rw [(S.same a ha).1, (S.same a ha).2, (S.same b hb).1, (S.same b hb).2]
theorem c_Rel (n op : Int) (a b : Nat) (ha : a < 18446744073709551616) (hb : b < 18446744073709551616) (k : Nat) (hk : 3 ≤ k) : floats_Rel.f k n op a b = some (relF n op a b) := by
  obtain ⟨k, rfl⟩ : ∃ m, k = m + 3 := ⟨k - 3, by omega⟩
  by_cases hn : n = 32 ∨ n = 64
  · obtain ⟨p, q, f, S⟩ := sz n hn
    have hpq := S.pq
    unfold floats_Rel.f
    rw [S.of]
    simp only [Option.bind_some]
    rw [S.none]
    simp only [Option.bind_some]
    rw [if_neg (by decide)]
    have bad : floats_Rel.j0 (k + 3) op a b true p q = some (false, 1) := by
      simp only [floats_Rel.j0]; rw [if_pos True.intro]
    by_cases o1 : op < 1
    · rw [if_pos o1, bad]
      unfold relF; rw [if_pos (by omega)]
    · rw [if_neg o1]
      by_cases o6 : op > 6
      · rw [decide_eq_true o6, bad]
        unfold relF; rw [if_pos (by omega)]
      · rw [decide_eq_false o6]
        simp only [floats_Rel.j0]
        rw [if_neg (by simp), c_isNaN hpq a ha, c_isNaN hpq b hb]
        simp only [Option.bind_some]
        have eN : nanW f a = nanW f (wOf n (a : Int)) := by unfold nanW; rw [(S.same a ha).1]
        have eM : nanW f b = nanW f (wOf n (b : Int)) := by unfold nanW; rw [(S.same b hb).1]
        have bi := bin_ok hpq
        have eR : relF n op a b = (if op = 1 then f.order (wOf n a) (wOf n b) == some .eq else if op = 2 then f.order (wOf n a) (wOf n b) != some .eq else if op = 3 then f.order (wOf n a) (wOf n b) == some .lt
            else if op = 4 then f.order (wOf n a) (wOf n b) == some .gt else if op = 5 then f.order (wOf n a) (wOf n b) == some .lt || f.order (wOf n a) (wOf n b) == some .eq
            else f.order (wOf n a) (wOf n b) == some .gt || f.order (wOf n a) (wOf n b) == some .eq, 0) := by
          unfold relF; rw [if_neg (by omega)]; unfold ordOf; rw [S.fm]
        rw [eR]
        have j1n : nanW f (wOf n (a : Int)) = true ∨ nanW f (wOf n (b : Int)) = true → floats_Rel.j1 (k + 2) op a b true p q = some (if op = 1 then f.order (wOf n a) (wOf n b) == some .eq else if op = 2 then f.order (wOf n a) (wOf n b) != some .eq else if op = 3 then f.order (wOf n a) (wOf n b) == some .lt
            else if op = 4 then f.order (wOf n a) (wOf n b) == some .gt else if op = 5 then f.order (wOf n a) (wOf n b) == some .lt || f.order (wOf n a) (wOf n b) == some .eq
            else f.order (wOf n a) (wOf n b) == some .gt || f.order (wOf n a) (wOf n b) == some .eq, 0) := by
          intro h
          rw [order_nan f _ _ bi (h.imp (fun x => of_decide_eq_true x) (fun x => of_decide_eq_true x))]
          simp only [floats_Rel.j1]
          rw [if_pos True.intro]
          have : op = 1 ∨ op = 2 ∨ op = 3 ∨ op = 4 ∨ op = 5 ∨ op = 6 := by omega
          rcases this with rfl | rfl | rfl | rfl | rfl | rfl <;> rfl
        rw [eN, eM]
        cases hN : nanW f (wOf n (a : Int))
        · rw [if_neg (by decide)]
          cases hM : nanW f (wOf n (b : Int))
          · have iA : rungOf f (wOf n (a : Int)) ≤ f.infRung := by have : ¬ f.infRung < rungOf f (wOf n (a : Int)) := of_decide_eq_false hN; omega
            have iB : rungOf f (wOf n (b : Int)) ≤ f.infRung := by have : ¬ f.infRung < rungOf f (wOf n (b : Int)) := of_decide_eq_false hM; omega
            obtain ⟨g1, g2, g3⟩ := order_gt f _ _ bi iA iB
            have g4 : (f.order (wOf n (a : Int)) (wOf n (b : Int)) != some .eq) = !(!lessF f (wOf n (a : Int)) (wOf n (b : Int)) && !lessF f (wOf n (b : Int)) (wOf n (a : Int))) := by
              rw [← g2]; rfl
            rw [g1, g2, g3, g4]
            simp only [floats_Rel.j1]
            rw [if_neg (by simp), c_less hpq a b ha hb, c_less hpq b a hb ha, lessF_same S a b ha hb, lessF_same S b a hb ha]
            simp only [Option.bind_some]
            have not2 : lessF f (wOf n (a : Int)) (wOf n (b : Int)) = true → lessF f (wOf n (b : Int)) (wOf n (a : Int)) = false := by
              unfold lessF
              intro h
              by_cases z : rungOf f (wOf n (a : Int)) = 0 ∧ rungOf f (wOf n (b : Int)) = 0
              · rw [if_pos z] at h; cases h
              · rw [if_neg z] at h
                rw [if_neg (fun x => z ⟨x.2, x.1⟩)]
                cases hs : negOf f (wOf n (a : Int)) <;> cases ht : negOf f (wOf n (b : Int)) <;> rw [hs, ht] at h <;> simp at h ⊢ <;> omega
            generalize lessF f (wOf n (a : Int)) (wOf n (b : Int)) = u at *
            generalize lessF f (wOf n (b : Int)) (wOf n (a : Int)) = v at *
            have : op = 1 ∨ op = 2 ∨ op = 3 ∨ op = 4 ∨ op = 5 ∨ op = 6 := by omega
            rcases this with rfl | rfl | rfl | rfl | rfl | rfl <;> cases u <;> cases v <;> first | rfl | (exact absurd (not2 rfl) (by decide))
          · exact j1n (.inr hM)
        · rw [if_pos rfl]
          exact j1n (.inl hN)
  · unfold floats_Rel.f
    rw [of_wrong n (by omega) (by omega)]
    simp only [Option.bind_some]
    rw [none_wrong]
    simp only [Option.bind_some]
    rw [if_pos True.intro]
    simp only [floats_Rel.j0]
    rw [if_pos True.intro]
    unfold relF
    rw [if_pos (by omega)]
end Go.Proofs.Ytjfmomogidgbpaa.Pure
namespace Go.Proofs.Ytjfmomogidgbpaa.Pure
set_option linter.unusedVariables false
set_option linter.unusedSimpArgs false
open Go.RowKit Go.Proofs.Ytjfmomogidgbpaa.PFl Go.Proofs.Ytjfmomogidgbpaa.PFm Go.Proofs.Ytjfmomogidgbpaa.Fl Go.Proofs.YtjfmomogidgbpaaW.PrintWords Go.Proofs.YtjfmomogidgbpaaW.PrintLast
theorem FloatsStand_step (a b : Nat) (ha : a < 18446744073709551616) (hb : b < 18446744073709551616) (n op : Int) (h : op ≤ 6) (h0 : 0 ≤ op) (k : Nat) (hk : 3 ≤ k) :
    bl_FloatsStand.l1 (k + 1) a b n op = bl_FloatsStand.l1 k a b n (op + 1) := by
  simp only [bl_FloatsStand.l1]
  rw [if_pos h, c_Rel n op a b ha hb k hk, show br_Rel.f n op a b = some (relF n op a b) from rfl]
  simp only [Option.bind_some]
  rw [if_neg (by simp), if_pos True.intro, IntWalk.wrap64_in _ (by omega)]
theorem FloatsStand_next (a b : Nat) (n : Int) (hn : 0 ≤ n ∧ n ≤ 64) (k : Nat) : bl_FloatsStand.l1 (k + 1) a b n 7 = bl_FloatsStand.l0 k a b (n + 32) := by
  simp only [bl_FloatsStand.l1]
  rw [if_neg (by decide), IntWalk.wrap64_in _ (by omega)]
theorem FloatsStand_head (a b : Nat) (n : Int) (hn : n ≤ 64) (k : Nat) : bl_FloatsStand.l0 (k + 1) a b n = bl_FloatsStand.l1 k a b n 1 := by
  simp only [bl_FloatsStand.l0]
  rw [if_pos hn]
theorem FloatsStand : bl_FloatsStand.Pure := by
  intro a0 a1 h0 h1
  have h0 := bounds_u64 h0
  have h1 := bounds_u64 h1
  obtain ⟨a, rfl⟩ := Int.eq_ofNat_of_zero_le h0.1
  obtain ⟨b, rfl⟩ := Int.eq_ofNat_of_zero_le h1.1
  have ha : a < 18446744073709551616 := by omega
  have hb : b < 18446744073709551616 := by omega
  refine ⟨100, ?_⟩
  unfold bl_FloatsStand.f
  rw [awake_ok]
  simp only [Option.bind_some]
  rw [if_pos True.intro]
  show bl_FloatsStand.l0 (99 + 1) a b 32 = some true
  rw [FloatsStand_head a b 32 (by decide) 99]
  rw [show (99 : Nat) = 98 + 1 from rfl, FloatsStand_step a b ha hb 32 1 (by decide) (by decide) 98 (by decide), show (1 : Int) + 1 = 2 from rfl]
  rw [show (98 : Nat) = 97 + 1 from rfl, FloatsStand_step a b ha hb 32 2 (by decide) (by decide) 97 (by decide), show (2 : Int) + 1 = 3 from rfl]
  rw [show (97 : Nat) = 96 + 1 from rfl, FloatsStand_step a b ha hb 32 3 (by decide) (by decide) 96 (by decide), show (3 : Int) + 1 = 4 from rfl]
  rw [show (96 : Nat) = 95 + 1 from rfl, FloatsStand_step a b ha hb 32 4 (by decide) (by decide) 95 (by decide), show (4 : Int) + 1 = 5 from rfl]
  rw [show (95 : Nat) = 94 + 1 from rfl, FloatsStand_step a b ha hb 32 5 (by decide) (by decide) 94 (by decide), show (5 : Int) + 1 = 6 from rfl]
  rw [show (94 : Nat) = 93 + 1 from rfl, FloatsStand_step a b ha hb 32 6 (by decide) (by decide) 93 (by decide), show (6 : Int) + 1 = 7 from rfl]
  rw [show (93 : Nat) = 92 + 1 from rfl, FloatsStand_next a b 32 (by decide) 92, show (32 : Int) + 32 = 64 from rfl]
  rw [show (92 : Nat) = 91 + 1 from rfl]
  rw [FloatsStand_head a b 64 (by decide) 91]
  rw [show (91 : Nat) = 90 + 1 from rfl, FloatsStand_step a b ha hb 64 1 (by decide) (by decide) 90 (by decide), show (1 : Int) + 1 = 2 from rfl]
  rw [show (90 : Nat) = 89 + 1 from rfl, FloatsStand_step a b ha hb 64 2 (by decide) (by decide) 89 (by decide), show (2 : Int) + 1 = 3 from rfl]
  rw [show (89 : Nat) = 88 + 1 from rfl, FloatsStand_step a b ha hb 64 3 (by decide) (by decide) 88 (by decide), show (3 : Int) + 1 = 4 from rfl]
  rw [show (88 : Nat) = 87 + 1 from rfl, FloatsStand_step a b ha hb 64 4 (by decide) (by decide) 87 (by decide), show (4 : Int) + 1 = 5 from rfl]
  rw [show (87 : Nat) = 86 + 1 from rfl, FloatsStand_step a b ha hb 64 5 (by decide) (by decide) 86 (by decide), show (5 : Int) + 1 = 6 from rfl]
  rw [show (86 : Nat) = 85 + 1 from rfl, FloatsStand_step a b ha hb 64 6 (by decide) (by decide) 85 (by decide), show (6 : Int) + 1 = 7 from rfl]
  rw [show (85 : Nat) = 84 + 1 from rfl, FloatsStand_next a b 64 (by decide) 84, show (64 : Int) + 32 = 96 from rfl]
  rw [show (84 : Nat) = 83 + 1 from rfl]
  simp only [bl_FloatsStand.l0]
  rw [if_neg (by decide)]
end Go.Proofs.Ytjfmomogidgbpaa.Pure
namespace Go.Proofs.Ytjfmomogidgbpaa.PFm
open Go.RowKit Go.Proofs.Ytjfmomogidgbpaa.PFl Go.Proofs.YtjfmomogidgbpaaW.PrintWords Go.Proofs.YtjfmomogidgbpaaW.PrintLast Go.Proofs.YtjfmomogidgbpaaW.PrintMore
attribute [local go_sem] max2_int min2_int max_two min_two max_three min_three max_four min_four
set_option linter.unusedVariables false
set_option linter.unusedSimpArgs false
mutual
def bl_FloatsAll.l0 : Nat → Int → Int → Int → Option (Bool)
  | 0, _, _, _ => none
  | k + 1, x0, x1, x6 => if x6 ≤ 64 then (bl_FloatsAll.l1 k x0 x1 x6 1) else (some true)
def bl_FloatsAll.l1 : Nat → Int → Int → Int → Int → Option (Bool)
  | 0, _, _, _, _ => none
  | k + 1, x0, x1, x6, x7 => if x7 ≤ 9 then ((floats_Bin.f k x6 x7 x0 x1).bind fun bt279 => ((br_Bin.f x6 x7 x0 x1).bind fun bt281 => (if bt279.1 = bt281.1 then (bl_FloatsAll.l1 k x0 x1 x6 (wrap64 (x7 + 1))) else (some false)))) else (bl_FloatsAll.l2 k x0 x1 x6 1)
def bl_FloatsAll.l2 : Nat → Int → Int → Int → Int → Option (Bool)
  | 0, _, _, _, _ => none
  | k + 1, x0, x1, x6, x12 => if x12 ≤ 7 then ((floats_Un.f k x6 x12 x0).bind fun bt283 => ((br_Un.f x6 x12 x0).bind fun bt285 => (if bt283.1 = bt285.1 then (bl_FloatsAll.l2 k x0 x1 x6 (wrap64 (x12 + 1))) else (some false)))) else (bl_FloatsAll.l3 k x0 x1 x6 1)
def bl_FloatsAll.l3 : Nat → Int → Int → Int → Int → Option (Bool)
  | 0, _, _, _, _ => none
  | k + 1, x0, x1, x6, x17 => if x17 ≤ 6 then ((floats_Rel.f k x6 x17 x0 x1).bind fun bt287 => ((br_Rel.f x6 x17 x0 x1).bind fun bt289 => (if (bt287.1 != bt289.1) = true then (some false) else (bl_FloatsAll.l3 k x0 x1 x6 (wrap64 (x17 + 1)))))) else (bl_FloatsAll.l0 k x0 x1 (wrap64 (x6 + 32)))
end
def bl_FloatsAll.f (k : Nat) (a0 : Int) (a1 : Int) : Option (Bool) := (bl_awake.f k).bind fun t278 => (if t278 = true then (bl_FloatsAll.l0 k a0 a1 32) else (some false))
theorem bl_FloatsAll.mono_l : ∀ k, (∀ y0 y1 y2, LeO (bl_FloatsAll.l0 k y0 y1 y2) (bl_FloatsAll.l0 (k + 1) y0 y1 y2)) ∧ (∀ y0 y1 y2 y3, LeO (bl_FloatsAll.l1 k y0 y1 y2 y3) (bl_FloatsAll.l1 (k + 1) y0 y1 y2 y3)) ∧ (∀ y0 y1 y2 y3, LeO (bl_FloatsAll.l2 k y0 y1 y2 y3) (bl_FloatsAll.l2 (k + 1) y0 y1 y2 y3)) ∧ (∀ y0 y1 y2 y3, LeO (bl_FloatsAll.l3 k y0 y1 y2 y3) (bl_FloatsAll.l3 (k + 1) y0 y1 y2 y3)) := by
  intro k
  induction k with
  | zero => exact ⟨fun _ _ _ r h => by simp [bl_FloatsAll.l0] at h, fun _ _ _ _ r h => by simp [bl_FloatsAll.l1] at h, fun _ _ _ _ r h => by simp [bl_FloatsAll.l2] at h, fun _ _ _ _ r h => by simp [bl_FloatsAll.l3] at h⟩
  | succ k ih =>
    obtain ⟨ih0, ih1, ih2, ih3⟩ := ih
    refine ⟨?_, ?_, ?_, ?_⟩
    · intro y0 y1 y2
      unfold bl_FloatsAll.l0
      repeat' first
      | (with_reducible exact ih0 _ _ _)
      | (with_reducible exact ih1 _ _ _ _)
      | (with_reducible exact ih2 _ _ _ _)
      | (with_reducible exact ih3 _ _ _ _)
      | (with_reducible exact bl_awake.mono _)
      | (with_reducible exact floats_Bin.mono _ _ _ _ _)
      | (with_reducible exact floats_Rel.mono _ _ _ _ _)
      | (with_reducible exact floats_Un.mono _ _ _ _)
      | (with_reducible exact LeO.refl _)
      | (with_reducible exact LeO.none _)
      | (with_reducible refine LeO.ite ?_ ?_)
      | (with_reducible refine LeO.bind ?_ (fun _ => ?_))
      | exact ih0 _ _ _
      | exact ih1 _ _ _ _
      | exact ih2 _ _ _ _
      | exact ih3 _ _ _ _
      | exact bl_awake.mono _
      | exact floats_Bin.mono _ _ _ _ _
      | exact floats_Rel.mono _ _ _ _ _
      | exact floats_Un.mono _ _ _ _
      | exact LeO.none _
      | refine LeO.ite ?_ ?_
      | refine LeO.bind ?_ (fun _ => ?_)
    · intro y0 y1 y2 y3
      unfold bl_FloatsAll.l1
      repeat' first
      | (with_reducible exact ih0 _ _ _)
      | (with_reducible exact ih1 _ _ _ _)
      | (with_reducible exact ih2 _ _ _ _)
      | (with_reducible exact ih3 _ _ _ _)
      | (with_reducible exact bl_awake.mono _)
      | (with_reducible exact floats_Bin.mono _ _ _ _ _)
      | (with_reducible exact floats_Rel.mono _ _ _ _ _)
      | (with_reducible exact floats_Un.mono _ _ _ _)
      | (with_reducible exact LeO.refl _)
      | (with_reducible exact LeO.none _)
      | (with_reducible refine LeO.ite ?_ ?_)
      | (with_reducible refine LeO.bind ?_ (fun _ => ?_))
      | exact ih0 _ _ _
      | exact ih1 _ _ _ _
      | exact ih2 _ _ _ _
      | exact ih3 _ _ _ _
      | exact bl_awake.mono _
      | exact floats_Bin.mono _ _ _ _ _
      | exact floats_Rel.mono _ _ _ _ _
      | exact floats_Un.mono _ _ _ _
      | exact LeO.none _
      | refine LeO.ite ?_ ?_
      | refine LeO.bind ?_ (fun _ => ?_)
    · intro y0 y1 y2 y3
      unfold bl_FloatsAll.l2
      repeat' first
      | (with_reducible exact ih0 _ _ _)
      | (with_reducible exact ih1 _ _ _ _)
      | (with_reducible exact ih2 _ _ _ _)
      | (with_reducible exact ih3 _ _ _ _)
      | (with_reducible exact bl_awake.mono _)
      | (with_reducible exact floats_Bin.mono _ _ _ _ _)
      | (with_reducible exact floats_Rel.mono _ _ _ _ _)
      | (with_reducible exact floats_Un.mono _ _ _ _)
      | (with_reducible exact LeO.refl _)
      | (with_reducible exact LeO.none _)
      | (with_reducible refine LeO.ite ?_ ?_)
      | (with_reducible refine LeO.bind ?_ (fun _ => ?_))
      | exact ih0 _ _ _
      | exact ih1 _ _ _ _
      | exact ih2 _ _ _ _
      | exact ih3 _ _ _ _
      | exact bl_awake.mono _
      | exact floats_Bin.mono _ _ _ _ _
      | exact floats_Rel.mono _ _ _ _ _
      | exact floats_Un.mono _ _ _ _
      | exact LeO.none _
      | refine LeO.ite ?_ ?_
      | refine LeO.bind ?_ (fun _ => ?_)
    · intro y0 y1 y2 y3
      unfold bl_FloatsAll.l3
      repeat' first
      | (with_reducible exact ih0 _ _ _)
      | (with_reducible exact ih1 _ _ _ _)
      | (with_reducible exact ih2 _ _ _ _)
      | (with_reducible exact ih3 _ _ _ _)
      | (with_reducible exact bl_awake.mono _)
      | (with_reducible exact floats_Bin.mono _ _ _ _ _)
      | (with_reducible exact floats_Rel.mono _ _ _ _ _)
      | (with_reducible exact floats_Un.mono _ _ _ _)
      | (with_reducible exact LeO.refl _)
      | (with_reducible exact LeO.none _)
      | (with_reducible refine LeO.ite ?_ ?_)
      | (with_reducible refine LeO.bind ?_ (fun _ => ?_))
      | exact ih0 _ _ _
      | exact ih1 _ _ _ _
      | exact ih2 _ _ _ _
      | exact ih3 _ _ _ _
      | exact bl_awake.mono _
      | exact floats_Bin.mono _ _ _ _ _
      | exact floats_Rel.mono _ _ _ _ _
      | exact floats_Un.mono _ _ _ _
      | exact LeO.none _
      | refine LeO.ite ?_ ?_
      | refine LeO.bind ?_ (fun _ => ?_)
theorem bl_FloatsAll.mono : ∀ a0 a1 k, LeO (bl_FloatsAll.f k a0 a1) (bl_FloatsAll.f (k + 1) a0 a1) := by
  intro a0 a1 k
  obtain ⟨ih0, ih1, ih2, ih3⟩ := bl_FloatsAll.mono_l k
  unfold bl_FloatsAll.f
  repeat' first
      | (with_reducible exact ih0 _ _ _)
      | (with_reducible exact ih1 _ _ _ _)
      | (with_reducible exact ih2 _ _ _ _)
      | (with_reducible exact ih3 _ _ _ _)
      | (with_reducible exact bl_awake.mono _)
      | (with_reducible exact floats_Bin.mono _ _ _ _ _)
      | (with_reducible exact floats_Rel.mono _ _ _ _ _)
      | (with_reducible exact floats_Un.mono _ _ _ _)
      | (with_reducible exact LeO.refl _)
      | (with_reducible exact LeO.none _)
      | (with_reducible refine LeO.ite ?_ ?_)
      | (with_reducible refine LeO.bind ?_ (fun _ => ?_))
      | exact ih0 _ _ _
      | exact ih1 _ _ _ _
      | exact ih2 _ _ _ _
      | exact ih3 _ _ _ _
      | exact bl_awake.mono _
      | exact floats_Bin.mono _ _ _ _ _
      | exact floats_Rel.mono _ _ _ _ _
      | exact floats_Un.mono _ _ _ _
      | exact LeO.none _
      | refine LeO.ite ?_ ?_
      | refine LeO.bind ?_ (fun _ => ?_)
/-- THE ONE PURE STATEMENT of bl_FloatsAll: yours. -/
def bl_FloatsAll.Pure : Prop := ∀ (a0 : Int) (a1 : Int), (Lit.int .u64 a0).wf = true → (Lit.int .u64 a1).wf = true → ∃ k, bl_FloatsAll.f k a0 a1 = some true
def bl_FloatsOne.f (k : Nat) (a0 : Int) (a1 : Int) (a2 : Int) (a3 : Int) : Option (Bool) := (bl_awake.f k).bind fun t291 => (if t291 = true then ((floats_Un.f k a0 a1 a2).bind fun bt292 => ((br_Un.f a0 a1 a2).bind fun bt294 => ((floats_Rel.f k a0 a1 a2 a3).bind fun bt296 => ((br_Rel.f a0 a1 a2 a3).bind fun bt298 => (if bt292.1 = bt294.1 then (if bt292.2 = bt294.2 then (if (bt296.1 == bt298.1) = true then (some (bt296.2 == bt298.2)) else (some false)) else (some false)) else (some false)))))) else (some false))
theorem bl_FloatsOne.mono : ∀ a0 a1 a2 a3 k, LeO (bl_FloatsOne.f k a0 a1 a2 a3) (bl_FloatsOne.f (k + 1) a0 a1 a2 a3) := by
  intro a0 a1 a2 a3 k
  unfold bl_FloatsOne.f
  repeat' first
      | (with_reducible exact bl_awake.mono _)
      | (with_reducible exact floats_Rel.mono _ _ _ _ _)
      | (with_reducible exact floats_Un.mono _ _ _ _)
      | (with_reducible exact LeO.refl _)
      | (with_reducible exact LeO.none _)
      | (with_reducible refine LeO.ite ?_ ?_)
      | (with_reducible refine LeO.bind ?_ (fun _ => ?_))
      | exact bl_awake.mono _
      | exact floats_Rel.mono _ _ _ _ _
      | exact floats_Un.mono _ _ _ _
      | exact LeO.none _
      | refine LeO.ite ?_ ?_
      | refine LeO.bind ?_ (fun _ => ?_)
set_option maxHeartbeats 8000000 in
set_option maxRecDepth 100000 in
theorem bl_FloatsOne.calls (k : Nat) (a0 : Int) (a1 : Int) (a2 : Int) (a3 : Int) (r : Bool) (w : World) (h : bl_FloatsOne.f k a0 a1 a2 a3 = some r) :
    Calls Try.prog 13 #[.int .i64 a0, .int .i64 a1, .int .u64 a2, .int .u64 a3] w fun e w' => e = .returned (.bool r) ∧ Below w.heap.size w w' := by
  have HB := As0.mk (Below.refl w.heap.size w)
  have H : ((bl_awake.f k).bind fun t291 => (if t291 = true then ((floats_Un.f k a0 a1 a2).bind fun bt292 => ((br_Un.f a0 a1 a2).bind fun bt294 => ((floats_Rel.f k a0 a1 a2 a3).bind fun bt296 => ((br_Rel.f a0 a1 a2 a3).bind fun bt298 => (if bt292.1 = bt294.1 then (if bt292.2 = bt294.2 then (if (bt296.1 == bt298.1) = true then (some (bt296.2 == bt298.2)) else (some false)) else (some false)) else (some false)))))) else (some false))) = some r := h
  clear h
  replace H := Option.bind_eq_some_iff.mp H
  obtain ⟨t291, A50, H⟩ := H
  replace H : (if t291 = true then ((floats_Un.f k a0 a1 a2).bind fun bt292 => ((br_Un.f a0 a1 a2).bind fun bt294 => ((floats_Rel.f k a0 a1 a2 a3).bind fun bt296 => ((br_Rel.f a0 a1 a2 a3).bind fun bt298 => (if bt292.1 = bt294.1 then (if bt292.2 = bt294.2 then (if (bt296.1 == bt298.1) = true then (some (bt296.2 == bt298.2)) else (some false)) else (some false)) else (some false)))))) else (some false)) = some r := H
  have A5 := As0.mk A50
  clear A50
  by_cases c6 : t291 = true
  · subst c6
    have H1 : ((floats_Un.f k a0 a1 a2).bind fun bt292 => ((br_Un.f a0 a1 a2).bind fun bt294 => ((floats_Rel.f k a0 a1 a2 a3).bind fun bt296 => ((br_Rel.f a0 a1 a2 a3).bind fun bt298 => (if bt292.1 = bt294.1 then (if bt292.2 = bt294.2 then (if (bt296.1 == bt298.1) = true then (some (bt296.2 == bt298.2)) else (some false)) else (some false)) else (some false)))))) = some r := by rw [if_pos rfl] at H; exact H
    clear H
    have H := H1
    clear H1
    replace H := Option.bind_eq_some_iff.mp H
    obtain ⟨⟨t292, t293⟩, A70, H⟩ := H
    replace H : ((br_Un.f a0 a1 a2).bind fun bt294 => ((floats_Rel.f k a0 a1 a2 a3).bind fun bt296 => ((br_Rel.f a0 a1 a2 a3).bind fun bt298 => (if t292 = bt294.1 then (if t293 = bt294.2 then (if (bt296.1 == bt298.1) = true then (some (bt296.2 == bt298.2)) else (some false)) else (some false)) else (some false))))) = some r := H
    have A7 := As0.mk A70
    clear A70
    replace H := Option.bind_eq_some_iff.mp H
    obtain ⟨⟨t294, t295⟩, A80, H⟩ := H
    replace H : ((floats_Rel.f k a0 a1 a2 a3).bind fun bt296 => ((br_Rel.f a0 a1 a2 a3).bind fun bt298 => (if t292 = t294 then (if t293 = t295 then (if (bt296.1 == bt298.1) = true then (some (bt296.2 == bt298.2)) else (some false)) else (some false)) else (some false)))) = some r := H
    have A8 := As0.mk A80
    clear A80
    replace H := Option.bind_eq_some_iff.mp H
    obtain ⟨⟨t296, t297⟩, A90, H⟩ := H
    replace H : ((br_Rel.f a0 a1 a2 a3).bind fun bt298 => (if t292 = t294 then (if t293 = t295 then (if (t296 == bt298.1) = true then (some (t297 == bt298.2)) else (some false)) else (some false)) else (some false))) = some r := H
    have A9 := As0.mk A90
    clear A90
    replace H := Option.bind_eq_some_iff.mp H
    obtain ⟨⟨t298, t299⟩, A100, H⟩ := H
    replace H : (if t292 = t294 then (if t293 = t295 then (if (t296 == t298) = true then (some (t297 == t299)) else (some false)) else (some false)) else (some false)) = some r := H
    have A10 := As0.mk A100
    clear A100
    by_cases c11 : t292 = t294
    · rw [if_pos c11] at H
      have c11b0 : (t292 == t294) = true := beq_iff_eq.mpr c11
      have c11b1 : (t292 != t294) = false := bne_eq_false_iff_eq.mpr c11
      clear c11
      by_cases c12 : t293 = t295
      · rw [if_pos c12] at H
        have c12b0 : (t293 == t295) = true := beq_iff_eq.mpr c12
        have c12b1 : (t293 != t295) = false := bne_eq_false_iff_eq.mpr c12
        clear c12
        by_cases c13 : (t296 == t298) = true
        · rw [if_pos c13] at H
          have c13b0 : (t296 == t298) = true := c13
          (try (have c13b1 : decide (t296 = t298) = true := by simpa using c13))
          (try (have c13b2 : (t296 == t298) = true := by simpa using c13))
          clear c13
          obtain rfl := Option.some.inj H
          go_enter Try.func13, Try.ntmps13
          go_wp2_with (first | ((with_reducible refine gcl (f := 16) rfl ?_); refine goesL_ (some 18) rfl rfl Try.func16 (by kernel_rfl) rfl #[] rfl (by (try simp only [List.map_toArray, List.map_cons, List.map_nil]); first | done | rfl) ?_; (with_reducible refine (bl_awake.calls k  true _ A5.out).mono ?_); rintro e w14 ⟨rfl, hb⟩; refine ⟨_, rfl, ?_⟩; have n0_ := As0.mk (bst (by repeat (first | (with_reducible first | exact HB.out | apply bal | apply pwB_ | apply bd1) | exact HB.out)) hb); clear HB; have HB := n0_; clear n0_; (try clear hb); (try clear hb2); (try clear hk); (try clear hi)) | ((with_reducible refine gcl (f := 20) rfl ?_); refine goesL_ (some 25) rfl rfl Try.func20 (by kernel_rfl) rfl #[.int .i64 a0, .int .i64 a1, .int .u64 a2] rfl (by (try simp only [List.map_toArray, List.map_cons, List.map_nil]); first | done | rfl) ?_; (with_reducible refine (floats_Un.calls k a0 a1 a2 t292 t293 _ A7.out).mono ?_); rintro e w15 ⟨rfl, hb⟩; refine ⟨_, rfl, ?_⟩; have n0_ := As0.mk (bst (by repeat (first | (with_reducible first | exact HB.out | apply bal | apply pwB_ | apply bd1) | exact HB.out)) hb); clear HB; have HB := n0_; clear n0_; (try clear hb); (try clear hb2); (try clear hk); (try clear hi)) | ((with_reducible refine gcl (f := 30) rfl ?_); refine goesL_ (some 32) rfl rfl Try.func30 (by kernel_rfl) rfl #[.int .i64 a0, .int .i64 a1, .int .u64 a2] rfl (by (try simp only [List.map_toArray, List.map_cons, List.map_nil]); first | done | rfl) ?_; (with_reducible refine (br_Un.calls a0 a1 a2 t294 t295 _ A8.out).mono ?_); rintro e w16 ⟨rfl, hb⟩; refine ⟨_, rfl, ?_⟩; have n0_ := As0.mk (bst (by repeat (first | (with_reducible first | exact HB.out | apply bal | apply pwB_ | apply bd1) | exact HB.out)) hb); clear HB; have HB := n0_; clear n0_; (try clear hb); (try clear hb2); (try clear hk); (try clear hi)) | ((with_reducible refine gcl (f := 21) rfl ?_); refine goesL_ (some 40) rfl rfl Try.func21 (by kernel_rfl) rfl #[.int .i64 a0, .int .i64 a1, .int .u64 a2, .int .u64 a3] rfl (by (try simp only [List.map_toArray, List.map_cons, List.map_nil]); first | done | rfl) ?_; (with_reducible refine (floats_Rel.calls k a0 a1 a2 a3 t296 t297 _ A9.out).mono ?_); rintro e w17 ⟨rfl, hb⟩; refine ⟨_, rfl, ?_⟩; have n0_ := As0.mk (bst (by repeat (first | (with_reducible first | exact HB.out | apply bal | apply pwB_ | apply bd1) | exact HB.out)) hb); clear HB; have HB := n0_; clear n0_; (try clear hb); (try clear hb2); (try clear hk); (try clear hi)) | ((with_reducible refine gcl (f := 23) rfl ?_); refine goesL_ (some 48) rfl rfl Try.func23 (by kernel_rfl) rfl #[.int .i64 a0, .int .i64 a1, .int .u64 a2, .int .u64 a3] rfl (by (try simp only [List.map_toArray, List.map_cons, List.map_nil]); first | done | rfl) ?_; (with_reducible refine (br_Rel.calls a0 a1 a2 a3 t298 t299 _ A10.out).mono ?_); rintro e w18 ⟨rfl, hb⟩; refine ⟨_, rfl, ?_⟩; have n0_ := As0.mk (bst (by repeat (first | (with_reducible first | exact HB.out | apply bal | apply pwB_ | apply bd1) | exact HB.out)) hb); clear HB; have HB := n0_; clear n0_; (try clear hb); (try clear hb2); (try clear hk); (try clear hi)))
          go_ret
          exact ⟨by first | rfl | (simp [*] <;> rfl), by repeat (first | (with_reducible first | exact HB.out | apply bal | apply pwB_ | apply bd1) | exact HB.out)⟩
        · rw [if_neg c13] at H
          have c13b0 : (t296 == t298) = false := by simpa using c13
          (try (have c13b1 : decide (t296 = t298) = false := by simpa using c13))
          (try (have c13b2 : (t296 == t298) = false := by simpa using c13))
          (try (have c13b3 : ¬ (t296 = t298) := by simpa using c13))
          clear c13
          obtain rfl := Option.some.inj H
          go_enter Try.func13, Try.ntmps13
          go_wp2_with (first | ((with_reducible refine gcl (f := 16) rfl ?_); refine goesL_ (some 18) rfl rfl Try.func16 (by kernel_rfl) rfl #[] rfl (by (try simp only [List.map_toArray, List.map_cons, List.map_nil]); first | done | rfl) ?_; (with_reducible refine (bl_awake.calls k  true _ A5.out).mono ?_); rintro e w19 ⟨rfl, hb⟩; refine ⟨_, rfl, ?_⟩; have n0_ := As0.mk (bst (by repeat (first | (with_reducible first | exact HB.out | apply bal | apply pwB_ | apply bd1) | exact HB.out)) hb); clear HB; have HB := n0_; clear n0_; (try clear hb); (try clear hb2); (try clear hk); (try clear hi)) | ((with_reducible refine gcl (f := 20) rfl ?_); refine goesL_ (some 25) rfl rfl Try.func20 (by kernel_rfl) rfl #[.int .i64 a0, .int .i64 a1, .int .u64 a2] rfl (by (try simp only [List.map_toArray, List.map_cons, List.map_nil]); first | done | rfl) ?_; (with_reducible refine (floats_Un.calls k a0 a1 a2 t292 t293 _ A7.out).mono ?_); rintro e w20 ⟨rfl, hb⟩; refine ⟨_, rfl, ?_⟩; have n0_ := As0.mk (bst (by repeat (first | (with_reducible first | exact HB.out | apply bal | apply pwB_ | apply bd1) | exact HB.out)) hb); clear HB; have HB := n0_; clear n0_; (try clear hb); (try clear hb2); (try clear hk); (try clear hi)) | ((with_reducible refine gcl (f := 30) rfl ?_); refine goesL_ (some 32) rfl rfl Try.func30 (by kernel_rfl) rfl #[.int .i64 a0, .int .i64 a1, .int .u64 a2] rfl (by (try simp only [List.map_toArray, List.map_cons, List.map_nil]); first | done | rfl) ?_; (with_reducible refine (br_Un.calls a0 a1 a2 t294 t295 _ A8.out).mono ?_); rintro e w21 ⟨rfl, hb⟩; refine ⟨_, rfl, ?_⟩; have n0_ := As0.mk (bst (by repeat (first | (with_reducible first | exact HB.out | apply bal | apply pwB_ | apply bd1) | exact HB.out)) hb); clear HB; have HB := n0_; clear n0_; (try clear hb); (try clear hb2); (try clear hk); (try clear hi)) | ((with_reducible refine gcl (f := 21) rfl ?_); refine goesL_ (some 40) rfl rfl Try.func21 (by kernel_rfl) rfl #[.int .i64 a0, .int .i64 a1, .int .u64 a2, .int .u64 a3] rfl (by (try simp only [List.map_toArray, List.map_cons, List.map_nil]); first | done | rfl) ?_; (with_reducible refine (floats_Rel.calls k a0 a1 a2 a3 t296 t297 _ A9.out).mono ?_); rintro e w22 ⟨rfl, hb⟩; refine ⟨_, rfl, ?_⟩; have n0_ := As0.mk (bst (by repeat (first | (with_reducible first | exact HB.out | apply bal | apply pwB_ | apply bd1) | exact HB.out)) hb); clear HB; have HB := n0_; clear n0_; (try clear hb); (try clear hb2); (try clear hk); (try clear hi)) | ((with_reducible refine gcl (f := 23) rfl ?_); refine goesL_ (some 48) rfl rfl Try.func23 (by kernel_rfl) rfl #[.int .i64 a0, .int .i64 a1, .int .u64 a2, .int .u64 a3] rfl (by (try simp only [List.map_toArray, List.map_cons, List.map_nil]); first | done | rfl) ?_; (with_reducible refine (br_Rel.calls a0 a1 a2 a3 t298 t299 _ A10.out).mono ?_); rintro e w23 ⟨rfl, hb⟩; refine ⟨_, rfl, ?_⟩; have n0_ := As0.mk (bst (by repeat (first | (with_reducible first | exact HB.out | apply bal | apply pwB_ | apply bd1) | exact HB.out)) hb); clear HB; have HB := n0_; clear n0_; (try clear hb); (try clear hb2); (try clear hk); (try clear hi)))
          go_ret
          exact ⟨by first | rfl | (simp [*] <;> rfl), by repeat (first | (with_reducible first | exact HB.out | apply bal | apply pwB_ | apply bd1) | exact HB.out)⟩
      · rw [if_neg c12] at H
        have c12b0 : (t293 == t295) = false := beq_eq_false_iff_ne.mpr c12
        have c12b1 : (t293 != t295) = true := bne_iff_ne.mpr c12
        obtain rfl := Option.some.inj H
        go_enter Try.func13, Try.ntmps13
        go_wp2_with (first | ((with_reducible refine gcl (f := 16) rfl ?_); refine goesL_ (some 18) rfl rfl Try.func16 (by kernel_rfl) rfl #[] rfl (by (try simp only [List.map_toArray, List.map_cons, List.map_nil]); first | done | rfl) ?_; (with_reducible refine (bl_awake.calls k  true _ A5.out).mono ?_); rintro e w24 ⟨rfl, hb⟩; refine ⟨_, rfl, ?_⟩; have n0_ := As0.mk (bst (by repeat (first | (with_reducible first | exact HB.out | apply bal | apply pwB_ | apply bd1) | exact HB.out)) hb); clear HB; have HB := n0_; clear n0_; (try clear hb); (try clear hb2); (try clear hk); (try clear hi)) | ((with_reducible refine gcl (f := 20) rfl ?_); refine goesL_ (some 25) rfl rfl Try.func20 (by kernel_rfl) rfl #[.int .i64 a0, .int .i64 a1, .int .u64 a2] rfl (by (try simp only [List.map_toArray, List.map_cons, List.map_nil]); first | done | rfl) ?_; (with_reducible refine (floats_Un.calls k a0 a1 a2 t292 t293 _ A7.out).mono ?_); rintro e w25 ⟨rfl, hb⟩; refine ⟨_, rfl, ?_⟩; have n0_ := As0.mk (bst (by repeat (first | (with_reducible first | exact HB.out | apply bal | apply pwB_ | apply bd1) | exact HB.out)) hb); clear HB; have HB := n0_; clear n0_; (try clear hb); (try clear hb2); (try clear hk); (try clear hi)) | ((with_reducible refine gcl (f := 30) rfl ?_); refine goesL_ (some 32) rfl rfl Try.func30 (by kernel_rfl) rfl #[.int .i64 a0, .int .i64 a1, .int .u64 a2] rfl (by (try simp only [List.map_toArray, List.map_cons, List.map_nil]); first | done | rfl) ?_; (with_reducible refine (br_Un.calls a0 a1 a2 t294 t295 _ A8.out).mono ?_); rintro e w26 ⟨rfl, hb⟩; refine ⟨_, rfl, ?_⟩; have n0_ := As0.mk (bst (by repeat (first | (with_reducible first | exact HB.out | apply bal | apply pwB_ | apply bd1) | exact HB.out)) hb); clear HB; have HB := n0_; clear n0_; (try clear hb); (try clear hb2); (try clear hk); (try clear hi)) | ((with_reducible refine gcl (f := 21) rfl ?_); refine goesL_ (some 40) rfl rfl Try.func21 (by kernel_rfl) rfl #[.int .i64 a0, .int .i64 a1, .int .u64 a2, .int .u64 a3] rfl (by (try simp only [List.map_toArray, List.map_cons, List.map_nil]); first | done | rfl) ?_; (with_reducible refine (floats_Rel.calls k a0 a1 a2 a3 t296 t297 _ A9.out).mono ?_); rintro e w27 ⟨rfl, hb⟩; refine ⟨_, rfl, ?_⟩; have n0_ := As0.mk (bst (by repeat (first | (with_reducible first | exact HB.out | apply bal | apply pwB_ | apply bd1) | exact HB.out)) hb); clear HB; have HB := n0_; clear n0_; (try clear hb); (try clear hb2); (try clear hk); (try clear hi)) | ((with_reducible refine gcl (f := 23) rfl ?_); refine goesL_ (some 48) rfl rfl Try.func23 (by kernel_rfl) rfl #[.int .i64 a0, .int .i64 a1, .int .u64 a2, .int .u64 a3] rfl (by (try simp only [List.map_toArray, List.map_cons, List.map_nil]); first | done | rfl) ?_; (with_reducible refine (br_Rel.calls a0 a1 a2 a3 t298 t299 _ A10.out).mono ?_); rintro e w28 ⟨rfl, hb⟩; refine ⟨_, rfl, ?_⟩; have n0_ := As0.mk (bst (by repeat (first | (with_reducible first | exact HB.out | apply bal | apply pwB_ | apply bd1) | exact HB.out)) hb); clear HB; have HB := n0_; clear n0_; (try clear hb); (try clear hb2); (try clear hk); (try clear hi)))
        go_ret
        exact ⟨by first | rfl | (simp [*] <;> rfl), by repeat (first | (with_reducible first | exact HB.out | apply bal | apply pwB_ | apply bd1) | exact HB.out)⟩
    · rw [if_neg c11] at H
      have c11b0 : (t292 == t294) = false := beq_eq_false_iff_ne.mpr c11
      have c11b1 : (t292 != t294) = true := bne_iff_ne.mpr c11
      obtain rfl := Option.some.inj H
      go_enter Try.func13, Try.ntmps13
      go_wp2_with (first | ((with_reducible refine gcl (f := 16) rfl ?_); refine goesL_ (some 18) rfl rfl Try.func16 (by kernel_rfl) rfl #[] rfl (by (try simp only [List.map_toArray, List.map_cons, List.map_nil]); first | done | rfl) ?_; (with_reducible refine (bl_awake.calls k  true _ A5.out).mono ?_); rintro e w29 ⟨rfl, hb⟩; refine ⟨_, rfl, ?_⟩; have n0_ := As0.mk (bst (by repeat (first | (with_reducible first | exact HB.out | apply bal | apply pwB_ | apply bd1) | exact HB.out)) hb); clear HB; have HB := n0_; clear n0_; (try clear hb); (try clear hb2); (try clear hk); (try clear hi)) | ((with_reducible refine gcl (f := 20) rfl ?_); refine goesL_ (some 25) rfl rfl Try.func20 (by kernel_rfl) rfl #[.int .i64 a0, .int .i64 a1, .int .u64 a2] rfl (by (try simp only [List.map_toArray, List.map_cons, List.map_nil]); first | done | rfl) ?_; (with_reducible refine (floats_Un.calls k a0 a1 a2 t292 t293 _ A7.out).mono ?_); rintro e w30 ⟨rfl, hb⟩; refine ⟨_, rfl, ?_⟩; have n0_ := As0.mk (bst (by repeat (first | (with_reducible first | exact HB.out | apply bal | apply pwB_ | apply bd1) | exact HB.out)) hb); clear HB; have HB := n0_; clear n0_; (try clear hb); (try clear hb2); (try clear hk); (try clear hi)) | ((with_reducible refine gcl (f := 30) rfl ?_); refine goesL_ (some 32) rfl rfl Try.func30 (by kernel_rfl) rfl #[.int .i64 a0, .int .i64 a1, .int .u64 a2] rfl (by (try simp only [List.map_toArray, List.map_cons, List.map_nil]); first | done | rfl) ?_; (with_reducible refine (br_Un.calls a0 a1 a2 t294 t295 _ A8.out).mono ?_); rintro e w31 ⟨rfl, hb⟩; refine ⟨_, rfl, ?_⟩; have n0_ := As0.mk (bst (by repeat (first | (with_reducible first | exact HB.out | apply bal | apply pwB_ | apply bd1) | exact HB.out)) hb); clear HB; have HB := n0_; clear n0_; (try clear hb); (try clear hb2); (try clear hk); (try clear hi)) | ((with_reducible refine gcl (f := 21) rfl ?_); refine goesL_ (some 40) rfl rfl Try.func21 (by kernel_rfl) rfl #[.int .i64 a0, .int .i64 a1, .int .u64 a2, .int .u64 a3] rfl (by (try simp only [List.map_toArray, List.map_cons, List.map_nil]); first | done | rfl) ?_; (with_reducible refine (floats_Rel.calls k a0 a1 a2 a3 t296 t297 _ A9.out).mono ?_); rintro e w32 ⟨rfl, hb⟩; refine ⟨_, rfl, ?_⟩; have n0_ := As0.mk (bst (by repeat (first | (with_reducible first | exact HB.out | apply bal | apply pwB_ | apply bd1) | exact HB.out)) hb); clear HB; have HB := n0_; clear n0_; (try clear hb); (try clear hb2); (try clear hk); (try clear hi)) | ((with_reducible refine gcl (f := 23) rfl ?_); refine goesL_ (some 48) rfl rfl Try.func23 (by kernel_rfl) rfl #[.int .i64 a0, .int .i64 a1, .int .u64 a2, .int .u64 a3] rfl (by (try simp only [List.map_toArray, List.map_cons, List.map_nil]); first | done | rfl) ?_; (with_reducible refine (br_Rel.calls a0 a1 a2 a3 t298 t299 _ A10.out).mono ?_); rintro e w33 ⟨rfl, hb⟩; refine ⟨_, rfl, ?_⟩; have n0_ := As0.mk (bst (by repeat (first | (with_reducible first | exact HB.out | apply bal | apply pwB_ | apply bd1) | exact HB.out)) hb); clear HB; have HB := n0_; clear n0_; (try clear hb); (try clear hb2); (try clear hk); (try clear hi)))
      go_ret
      exact ⟨by first | rfl | (simp [*] <;> rfl), by repeat (first | (with_reducible first | exact HB.out | apply bal | apply pwB_ | apply bd1) | exact HB.out)⟩
  · replace c6 := Bool.eq_false_iff.mpr c6
    subst c6
    have H1 : (some false) = some r := by rw [if_neg (show ¬ (false = true) by decide)] at H; exact H
    clear H
    have H := H1
    clear H1
    obtain rfl := Option.some.inj H
    go_enter Try.func13, Try.ntmps13
    go_wp2_with (first | ((with_reducible refine gcl (f := 16) rfl ?_); refine goesL_ (some 18) rfl rfl Try.func16 (by kernel_rfl) rfl #[] rfl (by (try simp only [List.map_toArray, List.map_cons, List.map_nil]); first | done | rfl) ?_; (with_reducible refine (bl_awake.calls k  false _ A5.out).mono ?_); rintro e w34 ⟨rfl, hb⟩; refine ⟨_, rfl, ?_⟩; have n0_ := As0.mk (bst (by repeat (first | (with_reducible first | exact HB.out | apply bal | apply pwB_ | apply bd1) | exact HB.out)) hb); clear HB; have HB := n0_; clear n0_; (try clear hb); (try clear hb2); (try clear hk); (try clear hi)))
    go_ret
    exact ⟨by first | rfl | (simp [*] <;> rfl), by repeat (first | (with_reducible first | exact HB.out | apply bal | apply pwB_ | apply bd1) | exact HB.out)⟩
/-- THE ONE PURE STATEMENT of bl_FloatsOne: yours. -/
def bl_FloatsOne.Pure : Prop := ∀ (a0 : Int) (a1 : Int) (a2 : Int) (a3 : Int), (Lit.int .i64 a0).wf = true → (Lit.int .i64 a1).wf = true → (Lit.int .u64 a2).wf = true → (Lit.int .u64 a3).wf = true → ∃ k, bl_FloatsOne.f k a0 a1 a2 a3 = some true
theorem bl_FloatsOne.walk (P : bl_FloatsOne.Pure) (a0 : Int) (a1 : Int) (a2 : Int) (a3 : Int) (w : World) (w0 : (Lit.int .i64 a0).wf = true) (w1 : (Lit.int .i64 a1).wf = true) (w2 : (Lit.int .u64 a2).wf = true) (w3 : (Lit.int .u64 a3).wf = true) :
    Calls Try.prog 13 #[.int .i64 a0, .int .i64 a1, .int .u64 a2, .int .u64 a3] w fun e w' => e = .returned (.bool true) ∧ Below w.heap.size w w' := by
  obtain ⟨k, h⟩ := P a0 a1 a2 a3 w0 w1 w2 w3
  refine (bl_FloatsOne.calls k a0 a1 a2 a3 true w h).mono ?_
  rintro e w' ⟨rfl, hd⟩
  exact ⟨rfl, hd⟩
mutual
def bl_FloatsRoots.l0 : Nat → Int → Int → Option (Bool)
  | 0, _, _ => none
  | k + 1, x0, x4 => if x4 ≤ 64 then (bl_FloatsRoots.l1 k x0 x4 1) else (some true)
def bl_FloatsRoots.l1 : Nat → Int → Int → Int → Option (Bool)
  | 0, _, _, _ => none
  | k + 1, x0, x4, x5 => if x5 ≤ 3 then ((floats_Un.f k x4 x5 x0).bind fun bt301 => ((br_Un.f x4 x5 x0).bind fun bt303 => (if bt301.1 = bt303.1 then (if bt301.2 = bt303.2 then (bl_FloatsRoots.l1 k x0 x4 (wrap64 (x5 + 1))) else (some false)) else (some false)))) else (bl_FloatsRoots.l0 k x0 (wrap64 (x4 + 32)))
end
def bl_FloatsRoots.f (k : Nat) (a0 : Int) : Option (Bool) := (bl_awake.f k).bind fun t300 => (if t300 = true then (bl_FloatsRoots.l0 k a0 32) else (some false))
theorem bl_FloatsRoots.mono_l : ∀ k, (∀ y0 y1, LeO (bl_FloatsRoots.l0 k y0 y1) (bl_FloatsRoots.l0 (k + 1) y0 y1)) ∧ (∀ y0 y1 y2, LeO (bl_FloatsRoots.l1 k y0 y1 y2) (bl_FloatsRoots.l1 (k + 1) y0 y1 y2)) := by
  intro k
  induction k with
  | zero => exact ⟨fun _ _ r h => by simp [bl_FloatsRoots.l0] at h, fun _ _ _ r h => by simp [bl_FloatsRoots.l1] at h⟩
  | succ k ih =>
    obtain ⟨ih0, ih1⟩ := ih
    refine ⟨?_, ?_⟩
    · intro y0 y1
      unfold bl_FloatsRoots.l0
      repeat' first
      | (with_reducible exact ih0 _ _)
      | (with_reducible exact ih1 _ _ _)
      | (with_reducible exact bl_awake.mono _)
      | (with_reducible exact floats_Un.mono _ _ _ _)
      | (with_reducible exact LeO.refl _)
      | (with_reducible exact LeO.none _)
      | (with_reducible refine LeO.ite ?_ ?_)
      | (with_reducible refine LeO.bind ?_ (fun _ => ?_))
      | exact ih0 _ _
      | exact ih1 _ _ _
      | exact bl_awake.mono _
      | exact floats_Un.mono _ _ _ _
      | exact LeO.none _
      | refine LeO.ite ?_ ?_
      | refine LeO.bind ?_ (fun _ => ?_)
    · intro y0 y1 y2
      unfold bl_FloatsRoots.l1
      repeat' first
      | (with_reducible exact ih0 _ _)
      | (with_reducible exact ih1 _ _ _)
      | (with_reducible exact bl_awake.mono _)
      | (with_reducible exact floats_Un.mono _ _ _ _)
      | (with_reducible exact LeO.refl _)
      | (with_reducible exact LeO.none _)
      | (with_reducible refine LeO.ite ?_ ?_)
      | (with_reducible refine LeO.bind ?_ (fun _ => ?_))
      | exact ih0 _ _
      | exact ih1 _ _ _
      | exact bl_awake.mono _
      | exact floats_Un.mono _ _ _ _
      | exact LeO.none _
      | refine LeO.ite ?_ ?_
      | refine LeO.bind ?_ (fun _ => ?_)
theorem bl_FloatsRoots.mono : ∀ a0 k, LeO (bl_FloatsRoots.f k a0) (bl_FloatsRoots.f (k + 1) a0) := by
  intro a0 k
  obtain ⟨ih0, ih1⟩ := bl_FloatsRoots.mono_l k
  unfold bl_FloatsRoots.f
  repeat' first
      | (with_reducible exact ih0 _ _)
      | (with_reducible exact ih1 _ _ _)
      | (with_reducible exact bl_awake.mono _)
      | (with_reducible exact floats_Un.mono _ _ _ _)
      | (with_reducible exact LeO.refl _)
      | (with_reducible exact LeO.none _)
      | (with_reducible refine LeO.ite ?_ ?_)
      | (with_reducible refine LeO.bind ?_ (fun _ => ?_))
      | exact ih0 _ _
      | exact ih1 _ _ _
      | exact bl_awake.mono _
      | exact floats_Un.mono _ _ _ _
      | exact LeO.none _
      | refine LeO.ite ?_ ?_
      | refine LeO.bind ?_ (fun _ => ?_)
set_option maxHeartbeats 8000000 in
set_option maxRecDepth 100000 in
theorem bl_FloatsRoots.calls (k : Nat) (a0 : Int) (r : Bool) (w : World) (h : bl_FloatsRoots.f k a0 = some r) :
    Calls Try.prog 14 #[.int .u64 a0] w fun e w' => e = .returned (.bool r) ∧ Below w.heap.size w w' := by
  have HB := As0.mk (Below.refl w.heap.size w)
  have H : ((bl_awake.f k).bind fun t300 => (if t300 = true then (bl_FloatsRoots.l0 k a0 32) else (some false))) = some r := h
  clear h
  replace H := Option.bind_eq_some_iff.mp H
  obtain ⟨t300, A20, H⟩ := H
  replace H : (if t300 = true then (bl_FloatsRoots.l0 k a0 32) else (some false)) = some r := H
  have A2 := As0.mk A20
  clear A20
  by_cases c3 : t300 = true
  · subst c3
    have H1 : (bl_FloatsRoots.l0 k a0 32) = some r := by rw [if_pos rfl] at H; exact H
    clear H
    have H := H1
    clear H1
    have H' := As0.mk H
    clear H
    go_enter Try.func14, Try.ntmps14
    go_wp2_with (first | ((with_reducible refine gcl (f := 16) rfl ?_); refine goesL_ (some 10) rfl rfl Try.func16 (by kernel_rfl) rfl #[] rfl (by (try simp only [List.map_toArray, List.map_cons, List.map_nil]); first | done | rfl) ?_; (with_reducible refine (bl_awake.calls k  true _ A2.out).mono ?_); rintro e w4 ⟨rfl, hb⟩; refine ⟨_, rfl, ?_⟩; have n0_ := As0.mk (bst (by repeat (first | (with_reducible first | exact HB.out | apply bal | apply pwB_ | apply bd1) | exact HB.out)) hb); clear HB; have HB := n0_; clear n0_; (try clear hb); (try clear hb2); (try clear hk); (try clear hi)))
    go_loopg [4] k (fun kq v4 w' => ∃ (x4_1 : Int), v4 = .int .i64 x4_1 ∧ As0 (bl_FloatsRoots.l0 kq a0 x4_1 = some r) ∧ As0 (kq ≤ k) ∧ As0 (Below w.heap.size w w'))
    case atStart => exact ⟨(32), (by first | rfl | (simp; done) | (simp [*]; done)), H', ⟨Nat.le_refl _⟩, ⟨by repeat (first | (with_reducible first | exact HB.out | apply bal | apply pwB_ | apply bd1) | exact HB.out)⟩⟩
    case round =>
      clear H'
      try clear c1
      try clear p2
      try clear c3
      obtain ⟨x4_1, rfl, HA, HK1, HB⟩ := hrel
      cases gk with
      | zero => exact absurd HA.out (by simp [bl_FloatsRoots.l0])
      | succ k1 =>
        have H := HA.out
        clear HA
        simp only [bl_FloatsRoots.l0] at H
        by_cases c5 : x4_1 ≤ 64
        · rw [if_pos c5] at H
          have c5b0 : decide (x4_1 ≤ 64) = true := decide_eq_true c5
          clear c5
          have H' := As0.mk H
          clear H
          go_wp2
          go_loopg [5] k1 (fun kq v5 w' => ∃ (x5_2 : Int), v5 = .int .i64 x5_2 ∧ As0 (bl_FloatsRoots.l1 kq a0 x4_1 x5_2 = some r) ∧ As0 (kq ≤ k1) ∧ As0 (Below w.heap.size w w'))
          case atStart => exact ⟨(1), (by first | rfl | (simp; done) | (simp [*]; done)), H', ⟨Nat.le_refl _⟩, ⟨by repeat (first | (with_reducible first | exact HB.out | apply bal | apply pwB_ | apply bd1) | exact HB.out)⟩⟩
          case round =>
            clear H'
            try clear c1
            try clear p2
            try clear c3
            try clear c5
            try clear c5b0
            try clear p2
            obtain ⟨x5_2, rfl, HA, HK2, HB⟩ := hrel
            cases gk with
            | zero => exact absurd HA.out (by simp [bl_FloatsRoots.l1])
            | succ k2 =>
              have H := HA.out
              clear HA
              simp only [bl_FloatsRoots.l1] at H
              by_cases c6 : x5_2 ≤ 3
              · rw [if_pos c6] at H
                have c6b0 : decide (x5_2 ≤ 3) = true := decide_eq_true c6
                clear c6
                replace H := Option.bind_eq_some_iff.mp H
                obtain ⟨⟨t301, t302⟩, A70, H⟩ := H
                replace H : ((br_Un.f x4_1 x5_2 a0).bind fun bt303 => (if t301 = bt303.1 then (if t302 = bt303.2 then (bl_FloatsRoots.l1 k2 a0 x4_1 (wrap64 (x5_2 + 1))) else (some false)) else (some false))) = some r := H
                have A7 := As0.mk A70
                clear A70
                replace H := Option.bind_eq_some_iff.mp H
                obtain ⟨⟨t303, t304⟩, A80, H⟩ := H
                replace H : (if t301 = t303 then (if t302 = t304 then (bl_FloatsRoots.l1 k2 a0 x4_1 (wrap64 (x5_2 + 1))) else (some false)) else (some false)) = some r := H
                have A8 := As0.mk A80
                clear A80
                by_cases c9 : t301 = t303
                · rw [if_pos c9] at H
                  have c9b0 : (t301 == t303) = true := beq_iff_eq.mpr c9
                  have c9b1 : (t301 != t303) = false := bne_eq_false_iff_eq.mpr c9
                  clear c9
                  by_cases c10 : t302 = t304
                  · rw [if_pos c10] at H
                    have c10b0 : (t302 == t304) = true := beq_iff_eq.mpr c10
                    have c10b1 : (t302 != t304) = false := bne_eq_false_iff_eq.mpr c10
                    clear c10
                    have H' := As0.mk H
                    clear H
                    go_wp2_with (first | ((with_reducible refine gcl (f := 20) rfl ?_); refine goesL_ (some 25) rfl rfl Try.func20 (by kernel_rfl) rfl #[.int .i64 x4_1, .int .i64 x5_2, .int .u64 a0] rfl (by (try simp only [List.map_toArray, List.map_cons, List.map_nil]); first | done | rfl) ?_; (with_reducible refine (floats_Un.calls k2 x4_1 x5_2 a0 t301 t302 _ A7.out).mono ?_); rintro e w11 ⟨rfl, hb⟩; refine ⟨_, rfl, ?_⟩; have n0_ := As0.mk (bst (by repeat (first | (with_reducible first | exact HB.out | apply bal | apply pwB_ | apply bd1) | exact HB.out)) hb); clear HB; have HB := n0_; clear n0_; (try clear hb); (try clear hb2); (try clear hk); (try clear hi)) | ((with_reducible refine gcl (f := 30) rfl ?_); refine goesL_ (some 32) rfl rfl Try.func30 (by kernel_rfl) rfl #[.int .i64 x4_1, .int .i64 x5_2, .int .u64 a0] rfl (by (try simp only [List.map_toArray, List.map_cons, List.map_nil]); first | done | rfl) ?_; (with_reducible refine (br_Un.calls x4_1 x5_2 a0 t303 t304 _ A8.out).mono ?_); rintro e w12 ⟨rfl, hb⟩; refine ⟨_, rfl, ?_⟩; have n0_ := As0.mk (bst (by repeat (first | (with_reducible first | exact HB.out | apply bal | apply pwB_ | apply bd1) | exact HB.out)) hb); clear HB; have HB := n0_; clear n0_; (try clear hb); (try clear hb2); (try clear hk); (try clear hi)))
                    go_roundg k2
                    case measure => have := HK1.out; have := HK2.out; omega
                    case rel => exact ⟨(wrap64 (x5_2 + 1)), (by first | rfl | (simp; done) | (simp [*]; done)), H', ⟨by have := HK1.out; have := HK2.out; omega⟩, ⟨by repeat (first | (with_reducible first | exact HB.out | apply bal | apply pwB_ | apply bd1) | exact HB.out)⟩⟩
                  · rw [if_neg c10] at H
                    have c10b0 : (t302 == t304) = false := beq_eq_false_iff_ne.mpr c10
                    have c10b1 : (t302 != t304) = true := bne_iff_ne.mpr c10
                    obtain rfl := Option.some.inj H
                    go_wp2_with (first | ((with_reducible refine gcl (f := 20) rfl ?_); refine goesL_ (some 25) rfl rfl Try.func20 (by kernel_rfl) rfl #[.int .i64 x4_1, .int .i64 x5_2, .int .u64 a0] rfl (by (try simp only [List.map_toArray, List.map_cons, List.map_nil]); first | done | rfl) ?_; (with_reducible refine (floats_Un.calls k2 x4_1 x5_2 a0 t301 t302 _ A7.out).mono ?_); rintro e w13 ⟨rfl, hb⟩; refine ⟨_, rfl, ?_⟩; have n0_ := As0.mk (bst (by repeat (first | (with_reducible first | exact HB.out | apply bal | apply pwB_ | apply bd1) | exact HB.out)) hb); clear HB; have HB := n0_; clear n0_; (try clear hb); (try clear hb2); (try clear hk); (try clear hi)) | ((with_reducible refine gcl (f := 30) rfl ?_); refine goesL_ (some 32) rfl rfl Try.func30 (by kernel_rfl) rfl #[.int .i64 x4_1, .int .i64 x5_2, .int .u64 a0] rfl (by (try simp only [List.map_toArray, List.map_cons, List.map_nil]); first | done | rfl) ?_; (with_reducible refine (br_Un.calls x4_1 x5_2 a0 t303 t304 _ A8.out).mono ?_); rintro e w14 ⟨rfl, hb⟩; refine ⟨_, rfl, ?_⟩; have n0_ := As0.mk (bst (by repeat (first | (with_reducible first | exact HB.out | apply bal | apply pwB_ | apply bd1) | exact HB.out)) hb); clear HB; have HB := n0_; clear n0_; (try clear hb); (try clear hb2); (try clear hk); (try clear hi)))
                    go_ret
                    exact ⟨by first | rfl | (simp [*] <;> rfl), by repeat (first | (with_reducible first | exact HB.out | apply bal | apply pwB_ | apply bd1) | exact HB.out)⟩
                · rw [if_neg c9] at H
                  have c9b0 : (t301 == t303) = false := beq_eq_false_iff_ne.mpr c9
                  have c9b1 : (t301 != t303) = true := bne_iff_ne.mpr c9
                  obtain rfl := Option.some.inj H
                  go_wp2_with (first | ((with_reducible refine gcl (f := 20) rfl ?_); refine goesL_ (some 25) rfl rfl Try.func20 (by kernel_rfl) rfl #[.int .i64 x4_1, .int .i64 x5_2, .int .u64 a0] rfl (by (try simp only [List.map_toArray, List.map_cons, List.map_nil]); first | done | rfl) ?_; (with_reducible refine (floats_Un.calls k2 x4_1 x5_2 a0 t301 t302 _ A7.out).mono ?_); rintro e w15 ⟨rfl, hb⟩; refine ⟨_, rfl, ?_⟩; have n0_ := As0.mk (bst (by repeat (first | (with_reducible first | exact HB.out | apply bal | apply pwB_ | apply bd1) | exact HB.out)) hb); clear HB; have HB := n0_; clear n0_; (try clear hb); (try clear hb2); (try clear hk); (try clear hi)) | ((with_reducible refine gcl (f := 30) rfl ?_); refine goesL_ (some 32) rfl rfl Try.func30 (by kernel_rfl) rfl #[.int .i64 x4_1, .int .i64 x5_2, .int .u64 a0] rfl (by (try simp only [List.map_toArray, List.map_cons, List.map_nil]); first | done | rfl) ?_; (with_reducible refine (br_Un.calls x4_1 x5_2 a0 t303 t304 _ A8.out).mono ?_); rintro e w16 ⟨rfl, hb⟩; refine ⟨_, rfl, ?_⟩; have n0_ := As0.mk (bst (by repeat (first | (with_reducible first | exact HB.out | apply bal | apply pwB_ | apply bd1) | exact HB.out)) hb); clear HB; have HB := n0_; clear n0_; (try clear hb); (try clear hb2); (try clear hk); (try clear hi)))
                  go_ret
                  exact ⟨by first | rfl | (simp [*] <;> rfl), by repeat (first | (with_reducible first | exact HB.out | apply bal | apply pwB_ | apply bd1) | exact HB.out)⟩
              · rw [if_neg c6] at H
                have c6b0 : decide (x5_2 ≤ 3) = false := decide_eq_false c6
                clear c6
                have H' := As0.mk H
                clear H
                go_wp2
                go_roundg k2
                case measure => have := HK1.out; have := HK2.out; omega
                case rel => exact ⟨(wrap64 (x4_1 + 32)), (by first | rfl | (simp; done) | (simp [*]; done)), H', ⟨by have := HK1.out; have := HK2.out; omega⟩, ⟨by repeat (first | (with_reducible first | exact HB.out | apply bal | apply pwB_ | apply bd1) | exact HB.out)⟩⟩
        · rw [if_neg c5] at H
          have c5b0 : decide (x4_1 ≤ 64) = false := decide_eq_false c5
          clear c5
          obtain rfl := Option.some.inj H
          go_wp2
          go_ret
          exact ⟨by first | rfl | (simp [*] <;> rfl), by repeat (first | (with_reducible first | exact HB.out | apply bal | apply pwB_ | apply bd1) | exact HB.out)⟩
  · replace c3 := Bool.eq_false_iff.mpr c3
    subst c3
    have H1 : (some false) = some r := by rw [if_neg (show ¬ (false = true) by decide)] at H; exact H
    clear H
    have H := H1
    clear H1
    obtain rfl := Option.some.inj H
    go_enter Try.func14, Try.ntmps14
    go_wp2_with (first | ((with_reducible refine gcl (f := 16) rfl ?_); refine goesL_ (some 10) rfl rfl Try.func16 (by kernel_rfl) rfl #[] rfl (by (try simp only [List.map_toArray, List.map_cons, List.map_nil]); first | done | rfl) ?_; (with_reducible refine (bl_awake.calls k  false _ A2.out).mono ?_); rintro e w17 ⟨rfl, hb⟩; refine ⟨_, rfl, ?_⟩; have n0_ := As0.mk (bst (by repeat (first | (with_reducible first | exact HB.out | apply bal | apply pwB_ | apply bd1) | exact HB.out)) hb); clear HB; have HB := n0_; clear n0_; (try clear hb); (try clear hb2); (try clear hk); (try clear hi)))
    go_ret
    exact ⟨by first | rfl | (simp [*] <;> rfl), by repeat (first | (with_reducible first | exact HB.out | apply bal | apply pwB_ | apply bd1) | exact HB.out)⟩
/-- THE ONE PURE STATEMENT of bl_FloatsRoots: yours. -/
def bl_FloatsRoots.Pure : Prop := ∀ (a0 : Int), (Lit.int .u64 a0).wf = true → ∃ k, bl_FloatsRoots.f k a0 = some true
theorem bl_FloatsRoots.walk (P : bl_FloatsRoots.Pure) (a0 : Int) (w : World) (w0 : (Lit.int .u64 a0).wf = true) :
    Calls Try.prog 14 #[.int .u64 a0] w fun e w' => e = .returned (.bool true) ∧ Below w.heap.size w w' := by
  obtain ⟨k, h⟩ := P a0 w0
  refine (bl_FloatsRoots.calls k a0 true w h).mono ?_
  rintro e w' ⟨rfl, hd⟩
  exact ⟨rfl, hd⟩
end Go.Proofs.Ytjfmomogidgbpaa.PFm
namespace Go.Proofs.Ytjfmomogidgbpaa.Pure
set_option linter.unusedVariables false
set_option linter.unusedSimpArgs false
open Go.RowKit Go.Proofs.Ytjfmomogidgbpaa.PFl Go.Proofs.Ytjfmomogidgbpaa.Fl Go.Proofs.YtjfmomogidgbpaaW.PrintWords
/-- The radicand's first pairs of bits: so many. -/
def pre (M i : Nat) : Nat := if i ≤ 32 then M / 2 ^ (64 - 2 * i) else M * 2 ^ (2 * i - 64)
theorem pre_lo (M i : Nat) (h : i < 32) : pre M (i + 1) = 4 * pre M i + M / 2 ^ (62 - 2 * i) % 4 := by
  unfold pre
  rw [if_pos (by omega), if_pos (by omega)]
  have e1 : 64 - 2 * (i + 1) = 62 - 2 * i := by omega
  have e2 : 2 ^ (64 - 2 * i) = 2 ^ (62 - 2 * i) * 4 := by rw [show 64 - 2 * i = 62 - 2 * i + 2 from by omega, Nat.pow_add]
  rw [e1, e2, ← Nat.div_div_eq_div_mul]
  omega
theorem pre_hi (M i : Nat) (h : ¬ i < 32) : pre M (i + 1) = 4 * pre M i := by
  unfold pre
  have h4 : ∀ n : Nat, M * 2 ^ (n + 2) = 4 * (M * 2 ^ n) := fun n => by rw [Nat.pow_add, ← Nat.mul_assoc, Nat.mul_comm]
  by_cases c : i = 32
  · subst c
    rw [if_neg (by decide), if_pos (by decide)]
    show M * 2 ^ (0 + 2) = 4 * (M / 2 ^ 0)
    rw [h4]; simp
  · rw [if_neg (by omega), if_neg (by omega), show 2 * (i + 1) - 64 = 2 * i - 64 + 2 from by omega]
    exact h4 _
theorem rt_step (P r s d : Nat) (h : r * r + s = P) (hs : s ≤ 2 * r) (hd : d < 4) :
    (4 * r + 1 ≤ 4 * s + d → (2 * r + 1) * (2 * r + 1) + (4 * s + d - (4 * r + 1)) = 4 * P + d ∧ 4 * s + d - (4 * r + 1) ≤ 2 * (2 * r + 1)) ∧
    (¬ 4 * r + 1 ≤ 4 * s + d → 2 * r * (2 * r) + (4 * s + d) = 4 * P + d ∧ 4 * s + d ≤ 2 * (2 * r)) := by
  have e : 2 * r * (2 * r) = 4 * (r * r) := by rw [Nat.mul_mul_mul_comm]
  have e2 : (2 * r + 1) * (2 * r + 1) = 2 * r * (2 * r) + 4 * r + 1 := by
    simp only [Nat.mul_add, Nat.add_mul, Nat.mul_one, Nat.one_mul]; omega
  constructor
  · intro c; omega
  · intro c; omega
theorem wrapu (x : Nat) (h : x < 18446744073709551616) : IntKind.u64.wrap (x : Int) = (x : Int) := by rw [IntKind.wrap_u64]; omega
theorem or_small (x d : Nat) (hx : 4 * x < 18446744073709551616) (hd : d < 4) : Go.bits .or .u64 ((4 * x : Nat) : Int) (d : Int) = ((4 * x + d : Nat) : Int) := by
  rw [or_nat _ _ hx (by omega), Nat.mul_comm, show x * 4 = 2 ^ 2 * x from by omega, Nat.two_pow_add_eq_or_of_lt hd]
theorem sq_loop (p q : Int) (M : Nat) (hM : M < 18446744073709551616) (e : Int) (j : Nat) : ∀ d i r s : Nat, i + d = 62 → r * r + s = pre M i → s ≤ 2 * r → r < 2 ^ i →
    ∃ R S : Nat, R * R + S = M * 2 ^ 60 ∧ S ≤ 2 * R ∧ R < 2 ^ 62 ∧
      ff_sqrt.l0 (2 * d + 2 + j) M e r s i p q = (ff_round.f j p q false R (wrap64 (Int.tdiv (wrap64 (e - 60)) 2)) ((S : Int) != 0)).bind fun t => some t := by
  intro d
  induction d with
  | zero =>
    intro i r s hi h hs hr
    obtain rfl : i = 62 := by omega
    refine ⟨r, s, h.trans rfl, hs, hr, ?_⟩
    show ff_sqrt.l0 (2 * 0 + 2 + j) M e r s 62 p q = _
    rw [show 2 * 0 + 2 + j = (j + 1) + 1 from by omega]
    simp only [ff_sqrt.l0]
    rw [if_pos (by decide), if_neg (by decide)]
    simp only [ff_sqrt.j2]
    rw [if_pos True.intro]
  | succ d ih =>
    intro i r s hi h hs hr
    have hp : 2 ^ i ≤ 2 ^ 61 := Nat.pow_le_pow_right (by decide) (by omega)
    have hr' : r < 2305843009213693952 := Nat.lt_of_lt_of_le hr hp
    -- one step, with the pair of bits that is next
    have step : ∀ D : Nat, D < 4 → pre M (i + 1) = 4 * pre M i + D →
        ∃ R S : Nat, R * R + S = M * 2 ^ 60 ∧ S ≤ 2 * R ∧ R < 2 ^ 62 ∧
          ff_sqrt.j2 (2 * d + 2 + j + 1) M e r s i D i p q = (ff_round.f j p q false R (wrap64 (Int.tdiv (wrap64 (e - 60)) 2)) ((S : Int) != 0)).bind fun t => some t := by
      intro D hD hP
      obtain ⟨y, n⟩ := rt_step (pre M i) r s D h hs hD
      simp only [ff_sqrt.j2]
      rw [if_neg (by omega)]
      have c1 : IntKind.u64.wrap ((s : Int) * 4) = ((4 * s : Nat) : Int) := by rw [IntKind.wrap_u64]; omega
      have c2 : IntKind.u64.wrap ((r : Int) * 4) = ((4 * r : Nat) : Int) := by rw [IntKind.wrap_u64]; omega
      have c3 : IntKind.u64.wrap ((r : Int) * 2) = ((2 * r : Nat) : Int) := by rw [IntKind.wrap_u64]; omega
      have c4 : wrap64 ((i : Int) + 1) = ((i + 1 : Nat) : Int) := by unfold wrap64; omega
      rw [c1, c2, c3, c4, or_small s D (by omega) hD, or_one _ (by omega), or_one _ (by omega), show 4 * r / 2 * 2 + 1 = 4 * r + 1 from by omega, show 2 * r / 2 * 2 + 1 = 2 * r + 1 from by omega]
      have hp2 : 2 ^ (i + 1) = 2 * 2 ^ i := by rw [Nat.pow_succ, Nat.mul_comm]
      by_cases g : 4 * r + 1 ≤ 4 * s + D
      · rw [if_pos (by omega), show IntKind.u64.wrap (((4 * s + D : Nat) : Int) - ((4 * r + 1 : Nat) : Int)) = ((4 * s + D - (4 * r + 1) : Nat) : Int) from by rw [IntKind.wrap_u64]; omega]
        exact ih (i + 1) (2 * r + 1) _ (by omega) ((y g).1.trans hP.symm) (y g).2 (by omega)
      · rw [if_neg (by omega)]
        exact ih (i + 1) (2 * r) _ (by omega) ((n g).1.trans hP.symm) (n g).2 (by omega)
    rw [show 2 * (d + 1) + 2 + j = (2 * d + 2 + j + 1) + 1 from by omega]
    simp only [ff_sqrt.l0]
    rw [if_pos (by omega)]
    by_cases c : i < 32
    · rw [if_pos (by omega)]
      have c0 : IntKind.u64.wrap (wrap64 (62 - (wrap64 (2 * (i : Int))))) = ((62 - 2 * i : Nat) : Int) := by
        rw [show wrap64 (62 - (wrap64 (2 * (i : Int)))) = 62 - 2 * (i : Int) from by unfold wrap64; omega, IntKind.wrap_u64]; omega
      rw [c0, if_pos (by omega), shr_nat _ _ (by omega)]
      have := and_mask (M / 2 ^ (62 - 2 * i)) 2 (Nat.lt_of_le_of_lt (Nat.div_le_self _ _) hM) (by decide)
      rw [show ((2 ^ 2 : Nat) : Int) - 1 = 3 from rfl] at this
      rw [this]
      exact step _ (Nat.mod_lt _ (by decide)) (pre_lo M i c)
    · rw [if_neg (by omega)]
      exact step 0 (by decide) (pre_hi M i c)
theorem c_rt {p q f} (h : Pq p q f) (M : Nat) (h1 : 4611686018427387904 ≤ M) (hM : M < 18446744073709551616) (e : Int) (he : e % 2 = 0) (he2 : -5000 ≤ e ∧ e ≤ 5000) (k : Nat) (hk : 130 ≤ k) :
    ∃ R : Nat, IsRt (M * 2 ^ 60) R ∧ 2 ^ 61 ≤ R ∧ ff_sqrt.j0 k M e p q = some ((f.nearest false (rtS (M * 2 ^ 60) R) ((e - 60) / 2 - 1) : Nat) : Int) := by
  obtain ⟨j, rfl⟩ : ∃ j, k = (2 * 62 + 2 + j) + 1 := ⟨k - 127, by omega⟩
  obtain ⟨R, S, hR, hS, hR2, hl⟩ := sq_loop p q M hM e j 62 0 0 0 (by decide) (by unfold pre; rw [if_pos (by decide), Nat.div_eq_of_lt (by exact hM)]) (by decide) (by decide)
  have rt : IsRt (M * 2 ^ 60) R := by
    constructor
    · omega
    · have : (R + 1) * (R + 1) = R * R + 2 * R + 1 := by simp only [Nat.mul_add, Nat.add_mul, Nat.mul_one, Nat.one_mul]; omega
      omega
  have r1 : 2 ^ 61 ≤ R := by
    apply rt.ge
    rw [show (2 ^ 61 * 2 ^ 61 : Nat) = 4611686018427387904 * 2 ^ 60 from by decide]
    exact Nat.mul_le_mul_right _ h1
  refine ⟨R, rt, r1, ?_⟩
  simp only [ff_sqrt.j0]
  refine hl.trans ?_
  have ee : wrap64 (Int.tdiv (wrap64 (e - 60)) 2) = (e - 60) / 2 := by
    rw [show wrap64 (e - 60) = e - 60 from by unfold wrap64; omega]
    have : Int.tdiv (e - 60) 2 = (e - 60) / 2 := by
      rw [Int.tdiv_eq_ediv]; split <;> omega
    rw [this]; unfold wrap64; omega
  have r2 : (2 : Nat) ^ 61 = 2305843009213693952 := by decide
  have r3 : (2 : Nat) ^ 62 = 4611686018427387904 := by decide
  rw [ee, c_round' h false R (by omega) ((e - 60) / 2) ((S : Int) != 0) (fun _ => by omega) j (by omega)]
  simp only [Option.bind_some]
  have : 2 * R + ((S : Int) != 0).toNat = rtS (M * 2 ^ 60) R := by
    unfold rtS
    by_cases z : S = 0
    · subst z; rw [if_pos (by omega)]; rfl
    · rw [if_neg (by omega), bne_iff_ne.2 (show (S : Int) ≠ 0 by omega)]; rfl
  rw [this]
set_option maxRecDepth 100000 in
theorem odd_small : ∀ n : Fin 4096, Go.bits .and .i64 ((n.val : Int) - 2048) 1 = ((n.val : Int) - 2048) % 2 := by decide +kernel
theorem odd_int (x : Int) (h : -2048 ≤ x ∧ x < 2048) : Go.bits .and .i64 x 1 = x % 2 := by
  have := odd_small ⟨(x + 2048).toNat, by omega⟩
  rw [show ((⟨(x + 2048).toNat, by omega⟩ : Fin 4096).val : Int) - 2048 = x from by show ((x + 2048).toNat : Int) - 2048 = x; omega] at this
  exact this
end Go.Proofs.Ytjfmomogidgbpaa.Pure
namespace Go.Proofs.Ytjfmomogidgbpaa.Pure
set_option linter.unusedVariables false
set_option linter.unusedSimpArgs false
open Go.RowKit Go.Proofs.Ytjfmomogidgbpaa.PFl Go.Proofs.Ytjfmomogidgbpaa.Fl Go.Proofs.YtjfmomogidgbpaaW.PrintWords
theorem neg_lt (f : Ieee.Format) (A : Nat) (hA : A < 2 * f.signWeight) (h : negOf f A = false) : rungOf f A = A := by
  have := word_of f A hA
  rw [h] at this
  exact this
theorem c_sqrt {p q f} (h : Pq p q f) (A : Nat) (hA : A < 2 * f.signWeight) (iA : rungOf f A ≤ f.infRung) (k : Nat) (hk : 130 ≤ k) : ff_sqrt.f k p q A = some (resP p (f.sqrt A)) := by
  obtain ⟨w1, w2, w3, w4, w5, w6, w7, w8, w9, w10, w11, w12⟩ := c_w h
  have hb := bin_ok h
  have ip : 0 < f.infRung := Nat.lt_of_lt_of_le (pw_pos _) hb
  have hA' : A < 18446744073709551616 := by omega
  unfold ff_sqrt.f Ieee.Format.sqrt
  rw [c_size h A hA', c_neg h A hA', c_inf h, c_parts h A hA']
  simp only [Option.bind_some]
  by_cases z : rungOf f A = 0
  · rw [if_pos (by omega), read_num f A (by omega), (mag_zero f _).2 z]
    simp only [Ieee.Datum.root]
    rw [if_pos True.intro, Option.map_some]
    unfold Ieee.Format.write
    simp only
    rw [nearest_zero, show f.word (negOf f A) 0 = A from by have := word_of f A hA; rwa [z] at this]; rfl
  · rw [if_neg (by omega)]
    cases hn : negOf f A
    · rw [if_neg (by decide)]
      have eA := neg_lt f A hA hn
      by_cases i : rungOf f A = f.infRung
      · rw [if_pos (by omega), read_inf f A hb i, hn]
        simp only [Ieee.Datum.root]
        rw [if_neg (by decide), Option.map_some, ← hn, write_inf f A hA i]; rfl
      · rw [if_neg (by omega), read_num f A (by omega), hn]
        have hm0 : magOf f (rungOf f A) ≠ 0 := fun e => z ((mag_zero _ _).1 e)
        have hm2 := mag_lt f (rungOf f A)
        have hpl : plOf f (rungOf f A) ≤ 2046 := by
          have hd : rungOf f A / f.binade < 2 ^ f.exponentBits := by
            exact (Nat.div_lt_iff_lt_mul (show 0 < f.binade from pw_pos _)).2 (by omega)
          have : 2 ^ f.exponentBits ≤ 2 ^ 11 := Nat.pow_le_pow_right (by decide) w5
          unfold plOf; omega
        have hpl0 : 0 ≤ plOf f (rungOf f A) := Nat.zero_le _
        generalize magOf f (rungOf f A) = m at *
        generalize plOf f (rungOf f A) = t at *
        have hm' : m < 18446744073709551616 := by omega
        have lo := Nat.log2_self_le (n := m) hm0
        have hi := Nat.lt_log2_self (n := m)
        have hlog : m.log2 ≤ 52 := by
          have := (Nat.log2_lt (n := m) (k := 53) hm0).2 (by omega)
          omega
        rw [c_lz m hm' hm0]
        simp only [Option.bind_some]
        have e63 : 2 ^ m.log2 * 2 ^ (63 - m.log2) = 9223372036854775808 := by rw [← Nat.pow_add, show m.log2 + (63 - m.log2) = 63 from by omega]
        have b1 : 9223372036854775808 ≤ m * 2 ^ (63 - m.log2) := by rw [← e63]; exact Nat.mul_le_mul_right _ lo
        have b2 : m * 2 ^ (63 - m.log2) < 18446744073709551616 := by
          have : m * 2 ^ (63 - m.log2) < 2 ^ (m.log2 + 1) * 2 ^ (63 - m.log2) := Nat.mul_lt_mul_of_pos_right hi (pw_pos _)
          rw [Nat.pow_succ, Nat.mul_right_comm, e63] at this
          omega
        rw [wrapu _ (by omega), if_pos (by omega), shl_nat m _ b2 (by omega)]
        have ew : wrap64 (f.leastPlace + (t : Int) - ((63 - m.log2 : Nat) : Int)) = f.leastPlace + (t : Int) - ((63 - m.log2 : Nat) : Int) := by unfold wrap64; omega
        rw [ew, odd_int _ (by omega)]
        have fin : ∀ (u : Nat), m * 2 ^ u < 18446744073709551616 → 4611686018427387904 ≤ m * 2 ^ u → u ≤ 63 → (f.leastPlace + (t : Int) - (u : Int)) % 2 = 0 → ∀ k, 130 ≤ k →
            ff_sqrt.j0 k ((m * 2 ^ u : Nat) : Int) (f.leastPlace + (t : Int) - (u : Int)) p q = some (resP p (((Ieee.Datum.number false m (f.leastPlace + (t : Int))).root (f.fractionBits + 2)).map f.write)) := by
          intro u h1 h2 hu h3 k hk
          obtain ⟨R, rt, r1, hl⟩ := c_rt h (m * 2 ^ u) h2 h1 _ h3 (by omega) k hk
          rw [Nat.mul_assoc, ← Nat.pow_add] at rt hl
          rw [hl, root_prog f m (f.leastPlace + (t : Int)) (by omega) hm2 (u + 60) R (by omega) rt (Nat.le_trans (Nat.pow_le_pow_right (by decide) (by omega)) r1)]
          rw [show (f.leastPlace + (t : Int) - ((u + 60 : Nat) : Int)) / 2 - 1 = (f.leastPlace + (t : Int) - (u : Int) - 60) / 2 - 1 from by omega]
          rfl
        by_cases o : (f.leastPlace + (t : Int) - ((63 - m.log2 : Nat) : Int)) % 2 = 1
        · rw [if_pos o]
          have e2 : m * 2 ^ (63 - m.log2) = 2 * (m * 2 ^ (62 - m.log2)) := by
            rw [show 63 - m.log2 = 62 - m.log2 + 1 from by omega, Nat.pow_succ, ← Nat.mul_assoc, Nat.mul_comm]
          rw [e2] at b1 b2 ⊢
          have e3 : ((2 * (m * 2 ^ (62 - m.log2)) : Nat) : Int) / 2 = ((m * 2 ^ (62 - m.log2) : Nat) : Int) := by omega
          have e4 : wrap64 (f.leastPlace + (t : Int) - ((63 - m.log2 : Nat) : Int) + 1) = f.leastPlace + (t : Int) - ((62 - m.log2 : Nat) : Int) := by unfold wrap64; omega
          rw [e3, e4]
          exact fin (62 - m.log2) (by omega) (by omega) (by omega) (by omega) k hk
        · rw [if_neg o]
          exact fin (63 - m.log2) b2 (by omega) (by omega) (by omega) k hk
    · rw [if_pos rfl, c_nanv h]
      simp only [Option.bind_some]
      have : ((f.read A).root (f.fractionBits + 2)).map f.write = none := by
        by_cases i : rungOf f A = f.infRung
        · rw [read_inf f A hb i, hn]; simp only [Ieee.Datum.root]; rfl
        · rw [read_num f A (by omega), hn]
          simp only [Ieee.Datum.root]
          rw [if_neg (fun e => z ((mag_zero _ _).1 e)), if_pos True.intro]; rfl
      rw [this]
/-- A number that is whole stays as it is. -/
theorem cut_none (way : Ieee.Toward) (s : Bool) (n : Nat) : way.cut s n 0 = n := by
  rw [cut_all, Nat.pow_zero, Nat.div_one, Nat.mod_one]
  cases way <;> cases s <;> rfl
theorem cut_nought (way : Ieee.Toward) (s : Bool) (d : Nat) : way.cut s 0 d = 0 := by
  rw [cut_all, Nat.zero_div, Nat.zero_mod]
  have := pw_pos d
  cases way
  · show 0 + (decide (2 ^ d < 2 * 0) || (2 ^ d == 2 * 0 && 0 % 2 == 1)).toNat = 0
    rw [decide_eq_false (by omega), beq_eq_false_iff_ne.2 (show 2 ^ d ≠ 2 * 0 by omega)]; rfl
  all_goals cases s <;> rfl
theorem c_whole_stay {p q f} (h : Pq p q f) (A : Nat) (hA : A < 2 * f.signWeight) (hs : rungOf f A = f.infRung ∨ rungOf f A < f.infRung ∧ (0 ≤ f.leastPlace + (plOf f (rungOf f A) : Int) ∨ magOf f (rungOf f A) = 0)) (way : Ieee.Toward) :
    f.write ((f.read A).integral way) = A := by
  have hb := bin_ok h
  rcases hs with i | ⟨i, hs⟩
  · rw [read_inf f A hb i]
    exact write_inf f A hA i
  · rw [read_num f A i]
    simp only [Ieee.Datum.integral]
    unfold Ieee.Format.write
    simp only
    have nw := nearest_word f A hA hb i
    rcases hs with e | z
    · rw [show (-(f.leastPlace + ((plOf f (rungOf f A) : Nat) : Int))).toNat = 0 from by omega, cut_none, Nat.shiftLeft_eq, nearest_scale,
        show (0 : Int) + ((f.leastPlace + ((plOf f (rungOf f A) : Nat) : Int)).toNat : Int) = f.leastPlace + ((plOf f (rungOf f A) : Nat) : Int) from by omega]
      exact nw
    · rw [z, Nat.shiftLeft_eq, Nat.zero_mul, cut_nought, nearest_zero]
      rw [z, nearest_zero] at nw
      exact nw
/-- What the program's shift tells of a number that is cut. -/
theorem more_far (way : Ieee.Toward) (s : Bool) (m d : Nat) (hm : m < 9007199254740992) (hd : 63 ≤ d) : m / 2 ^ d = 0 ∧ m % 2 ^ d = m ∧ moreOf way s (2 ^ d) m 0 = moreOf way s (2 ^ 63) m 0 := by
  have h3 : 2 ^ 63 ≤ 2 ^ d := Nat.pow_le_pow_right (by decide) hd
  have h4 : (2 : Nat) ^ 63 = 9223372036854775808 := by decide
  refine ⟨Nat.div_eq_of_lt (by omega), Nat.mod_eq_of_lt (by omega), ?_⟩
  cases way
  · unfold moreOf
    rw [decide_eq_false (show ¬ 2 ^ d < 2 * m by omega), decide_eq_false (show ¬ 2 ^ 63 < 2 * m by omega), beq_eq_false_iff_ne.2 (show 2 ^ d ≠ 2 * m by omega), beq_eq_false_iff_ne.2 (show 2 ^ 63 ≠ 2 * m by omega)]
  all_goals rfl
theorem c_whole {p q f} (h : Pq p q f) (A : Nat) (hA : A < 2 * f.signWeight) (iA : rungOf f A ≤ f.infRung) (op : Int) (ho : 4 ≤ op ∧ op ≤ 7) (k : Nat) (hk : 6 ≤ k) :
    ff_whole.f k p q op A = some ((f.write ((f.read A).integral (wayOf op)) : Nat) : Int) := by
  obtain ⟨w1, w2, w3, w4, w5, w6, w7, w8, w9, w10, w11, w12⟩ := c_w h
  have hb := bin_ok h
  have hA' : A < 18446744073709551616 := by omega
  obtain ⟨k, rfl⟩ : ∃ j, k = j + 2 := ⟨k - 2, by omega⟩
  unfold ff_whole.f
  rw [c_parts h A hA', c_size h A hA', c_inf h]
  simp only [Option.bind_some]
  have stay : ∀ hs : rungOf f A = f.infRung ∨ rungOf f A < f.infRung ∧ (0 ≤ f.leastPlace + (plOf f (rungOf f A) : Int) ∨ magOf f (rungOf f A) = 0),
      ff_whole.j0 (k + 2) op A (magOf f (rungOf f A)) (f.leastPlace + (plOf f (rungOf f A) : Int)) true p q = some ((f.write ((f.read A).integral (wayOf op)) : Nat) : Int) := by
    intro hs
    rw [c_whole_stay h A hA hs]
    simp only [ff_whole.j0]
    rw [if_pos True.intro]
  by_cases i : rungOf f A = f.infRung
  · rw [if_pos (by omega)]; exact stay (.inl i)
  · rw [if_neg (by omega)]
    by_cases e : 0 ≤ f.leastPlace + (plOf f (rungOf f A) : Int)
    · rw [if_pos e]; exact stay (.inr ⟨by omega, .inl e⟩)
    · rw [if_neg e]
      by_cases z : magOf f (rungOf f A) = 0
      · rw [show ((magOf f (rungOf f A) : Int) == 0) = true from by rw [z]; rfl]; exact stay (.inr ⟨by omega, .inr z⟩)
      · rw [show ((magOf f (rungOf f A) : Int) == 0) = false from beq_eq_false_iff_ne.2 (by omega), read_num f A (by omega)]
        have hm2 := mag_lt f (rungOf f A)
        simp only [Ieee.Datum.integral]
        unfold Ieee.Format.write
        simp only
        rw [show (f.leastPlace + ((plOf f (rungOf f A) : Nat) : Int)).toNat = 0 from by omega, Nat.shiftLeft_eq, Nat.pow_zero, Nat.mul_one]
        have ht : -1074 ≤ f.leastPlace + (plOf f (rungOf f A) : Int) := by omega
        generalize magOf f (rungOf f A) = m at *
        generalize f.leastPlace + (plOf f (rungOf f A) : Int) = t at *
        -- the drop
        obtain ⟨d, hd, hd1, hd2⟩ : ∃ d : Nat, mn (wrap64 (-t)) 63 = (d : Int) ∧ 1 ≤ d ∧ d ≤ 63 ∧ (d : Int) = min (-t) 63 := by
          refine ⟨(min (-t) 63).toNat, ?_, by omega, by omega, by omega⟩
          have : wrap64 (-t) = -t := by unfold wrap64; omega
          rw [this]; unfold mn; omega
        obtain ⟨hd2, hd3⟩ := hd2
        have cut : ∀ way : Ieee.Toward, way.cut (negOf f A) m (-t).toNat = m / 2 ^ d + (moreOf way (negOf f A) (2 ^ d) (m % 2 ^ d) (m / 2 ^ d)).toNat := by
          intro way
          rw [cut_all]
          by_cases c : (-t).toNat = d
          · rw [c]
          · obtain rfl : d = 63 := by omega
            obtain ⟨g1, g2, g3⟩ := more_far way (negOf f A) m (-t).toNat (by omega) (by omega)
            obtain ⟨k1, k2, k3⟩ := more_far way (negOf f A) m 63 (by omega) (by omega)
            rw [g1, g2, k1, k2, g3]
        rw [cut]
        have pd := pw_pos d
        have pd2 : 2 ^ d = 2 * 2 ^ (d - 1) := by rw [← Nat.pow_succ', show (d - 1).succ = d from by omega]
        have pd3 : 2 ^ d ≤ 2 ^ 63 := Nat.pow_le_pow_right (by decide) hd2
        have pd4 : (2 : Nat) ^ 63 = 9223372036854775808 := by decide
        have hlow : m / 2 ^ d ≤ m := Nat.div_le_self _ _
        -- the last step: rounding a whole number does nothing but write it
        have last : ∀ C : Nat, C ≤ m + 1 → ∀ j, 2 ≤ j → ff_round.f j p q (negOf f A) C 0 false = some ((f.nearest (negOf f A) C 0 : Nat) : Int) := by
          intro C hC j hj
          rw [c_round' h (negOf f A) C (by omega) 0 false (fun x => by cases x) j hj]
          have := nearest_scale f (negOf f A) C 1 (-1)
          rw [show C * 2 ^ 1 = 2 * C from by omega] at this
          rw [show 2 * C + false.toNat = 2 * C from rfl, show (0 : Int) - 1 = -1 from rfl, this]; rfl
        have j1 : ∀ up : Bool, ff_whole.j1 (k + 1) A ((m / 2 ^ d : Nat) : Int) up p q = some ((f.nearest (negOf f A) (m / 2 ^ d + up.toNat) 0 : Nat) : Int) := by
          intro up
          simp only [ff_whole.j1]
          rw [c_neg h A hA']
          simp only [Option.bind_some]
          cases up
          · rw [if_neg (by decide), last _ (by omega) k (by omega)]; rfl
          · rw [if_pos rfl, show IntKind.u64.wrap (((m / 2 ^ d : Nat) : Int) + 1) = ((m / 2 ^ d + 1 : Nat) : Int) from wrapu (m / 2 ^ d + 1) (by omega), last _ (by omega) k (by omega)]; rfl
        simp only [ff_whole.j0]
        rw [if_neg (by decide), hd, wrapu d (by omega), if_pos (by omega), show wrap64 ((d : Int) - 1) = ((d - 1 : Nat) : Int) from by unfold wrap64; omega, wrapu (d - 1) (by omega), if_pos (by omega)]
        have es := shl_nat 1 d (by omega) (by omega)
        have es2 := shl_nat 1 (d - 1) (by omega) (by omega)
        rw [show ((1 : Nat) : Int) = 1 from rfl] at es es2
        rw [es, es2, Nat.one_mul, Nat.one_mul, shr_nat m d (by omega)]
        have em : Go.bits .and .u64 (m : Int) (IntKind.u64.wrap (((2 ^ d : Nat) : Int) - 1)) = ((m % 2 ^ d : Nat) : Int) := by
          rw [show IntKind.u64.wrap (((2 ^ d : Nat) : Int) - 1) = ((2 ^ d : Nat) : Int) - 1 from by rw [IntKind.wrap_u64]; omega]
          exact and_mask m d (by omega) (by omega)
        rw [em, c_neg h A hA']
        simp only [Option.bind_some]
        rw [j1, j1, j1, j1, j1]
        generalize hrest : m % 2 ^ d = rest
        generalize hw : m / 2 ^ d = W at *
        by_cases o4 : op = 4
        · subst o4
          rw [if_pos rfl]
          show _ = some ((f.nearest (negOf f A) (W + (!negOf f A && rest != 0).toNat) 0 : Nat) : Int)
          by_cases r0 : rest = 0
          · subst r0; rw [if_neg (by decide), bne_self_eq_false, Bool.and_false]
          · rw [if_pos (by omega), bne_iff_ne.2 r0, Bool.and_true]
        · rw [if_neg o4]
          by_cases o5 : op = 5
          · subst o5
            rw [if_pos rfl]
            show _ = some ((f.nearest (negOf f A) (W + (negOf f A && rest != 0).toNat) 0 : Nat) : Int)
            by_cases r0 : rest = 0
            · subst r0; rw [if_neg (by decide), bne_self_eq_false, Bool.and_false]
            · rw [if_pos (by omega), bne_iff_ne.2 r0, Bool.and_true]
          · rw [if_neg o5]
            by_cases o7 : op = 7
            · subst o7
              rw [if_pos rfl]
              show _ = some ((f.nearest (negOf f A) (W + (decide (2 ^ d < 2 * rest) || (2 ^ d == 2 * rest && W % 2 == 1)).toNat) 0 : Nat) : Int)
              by_cases g : 2 ^ (d - 1) < rest
              · rw [if_pos (by omega), decide_eq_true (by omega), Bool.true_or]
              · rw [if_neg (by omega), decide_eq_false (by omega), Bool.false_or]
                by_cases g2 : rest = 2 ^ (d - 1)
                · rw [if_pos (by omega), beq_iff_eq.2 (show 2 ^ d = 2 * rest by omega), Bool.true_and]
                  have ho := odd_bit W (by omega)
                  have : (Go.bits .and .u64 (W : Int) 1 == 1) = (W % 2 == 1) := by
                    rw [Bool.eq_iff_iff, beq_iff_eq, beq_iff_eq, ho]
                  rw [this]
                · rw [if_neg (by omega), beq_eq_false_iff_ne.2 (show 2 ^ d ≠ 2 * rest by omega), Bool.false_and]
            · rw [if_neg o7]
              obtain rfl : op = 6 := by omega
              rfl
theorem c_Un (n op : Int) (a : Nat) (ha : a < 18446744073709551616) (k : Nat) (hk : 140 ≤ k) : floats_Un.f k n op a = some (unF n op a) := by
  obtain ⟨k, rfl⟩ : ∃ m, k = m + 1 := ⟨k - 1, by omega⟩
  by_cases hn : n = 32 ∨ n = 64
  · obtain ⟨p, q, f, S⟩ := sz n hn
    have hpq := S.pq
    obtain ⟨w1, w2, w3, w4, w5, w6, w7, w8, w9, w10, w11, w12⟩ := c_w hpq
    unfold floats_Un.f
    rw [S.of]
    simp only [Option.bind_some]
    rw [S.none]
    simp only [Option.bind_some]
    rw [if_neg (by decide)]
    have bad : floats_Un.j0 (k + 1) op a true p q = some (0, 1) := by
      simp only [floats_Un.j0]; rw [if_pos True.intro]
    by_cases o1 : op < 1
    · rw [if_pos o1, bad]
      unfold unF; rw [if_pos (by omega)]
    · rw [if_neg o1]
      by_cases o7 : op > 7
      · rw [decide_eq_true o7, bad]
        unfold unF; rw [if_pos (by omega)]
      · rw [decide_eq_false o7]
        have hr : ¬ ((n ≠ 32 ∧ n ≠ 64) ∨ op < 1 ∨ 7 < op) := by omega
        have hA := S.lt a ha
        have cA := S.cut a ha
        simp only [floats_Un.j0]
        rw [if_neg (by simp), c_cut hpq a ha, cA]
        simp only [Option.bind_some]
        unfold unF
        rw [if_neg hr]
        simp only
        rw [S.fm, S.sg]
        have hneg := S.neg_le (wOf n (a : Int)) hA
        rw [S.sg] at hneg
        generalize wOf n (a : Int) = A at *
        have hA' : A < 18446744073709551616 := by omega
        by_cases p1 : op = 1
        · rw [if_pos p1, if_pos p1, c_size hpq A hA']; rfl
        · rw [if_neg p1, if_neg p1]
          by_cases p2 : op = 2
          · rw [if_pos p2, if_pos p2, c_sign hpq]
            simp only [Option.bind_some]
            rw [xor_sign hpq A hA]
            have hw := word_of f A hA
            have wt : ∀ r, f.word true r = f.signWeight + r := fun r => rfl
            have wf : ∀ r, f.word false r = r := fun r => rfl
            cases hs : negOf f A
            · rw [hs, wf] at hw
              rw [if_neg (fun x => by rw [hneg.2 x] at hs; cases hs), Bool.not_false, wt, hw]
              rw [Nat.add_comm]; rfl
            · rw [hs, wt] at hw
              rw [if_pos (hneg.1 hs), Bool.not_true, wf]
              rw [show (rungOf f A : Int) = (A : Int) - (f.signWeight : Int) from by omega]
          · rw [if_neg p2, if_neg p2, c_isNaN hpq A hA']
            simp only [Option.bind_some]
            cases hN : nanW f A
            · rw [if_neg Bool.false_ne_true, if_neg Bool.false_ne_true]
              have iA : rungOf f A ≤ f.infRung := by have : ¬ f.infRung < rungOf f A := of_decide_eq_false hN; omega
              by_cases p3 : op = 3
              · rw [if_pos p3, if_pos p3, c_sqrt hpq A hA iA k (by omega)]
                simp only [Option.bind_some]
                rw [S.res]
              · rw [if_neg p3, if_neg p3, c_whole hpq A hA iA op (by omega) k (by omega)]
                simp only [Option.bind_some]
            · rw [if_pos rfl, if_pos rfl, c_nanv hpq]
              simp only [Option.bind_some]
              rw [S.res none]; rfl
  · unfold floats_Un.f
    rw [of_wrong n (by omega) (by omega)]
    simp only [Option.bind_some]
    rw [none_wrong]
    simp only [Option.bind_some]
    rw [if_pos True.intro]
    simp only [floats_Un.j0]
    rw [if_pos True.intro]
    unfold unF
    rw [if_pos (by omega)]
end Go.Proofs.Ytjfmomogidgbpaa.Pure
namespace Go.Proofs.Ytjfmomogidgbpaa.Pure
set_option linter.unusedVariables false
set_option linter.unusedSimpArgs false
open Go.RowKit Go.Proofs.Ytjfmomogidgbpaa.PFl Go.Proofs.Ytjfmomogidgbpaa.PFm Go.Proofs.Ytjfmomogidgbpaa.Fl Go.Proofs.YtjfmomogidgbpaaW.PrintWords Go.Proofs.YtjfmomogidgbpaaW.PrintLast
theorem FloatsRoots_ref (n op : Int) (a : Nat) (ha : a < 18446744073709551616) : br_Un.f n op a = some (unF n op a) := by
  unfold br_Un.f
  rw [if_pos (by omega)]
theorem FloatsRoots_step (a : Nat) (ha : a < 18446744073709551616) (n op : Int) (h : op ≤ 3) (h0 : 0 ≤ op) (k : Nat) (hk : 140 ≤ k) :
    bl_FloatsRoots.l1 (k + 1) a n op = bl_FloatsRoots.l1 k a n (op + 1) := by
  simp only [bl_FloatsRoots.l1]
  rw [if_pos h, c_Un n op a ha k hk, FloatsRoots_ref n op a ha]
  simp only [Option.bind_some]
  rw [if_pos True.intro, if_pos True.intro, IntWalk.wrap64_in _ (by omega)]
theorem FloatsRoots_next (a : Nat) (n : Int) (hn : 0 ≤ n ∧ n ≤ 64) (k : Nat) : bl_FloatsRoots.l1 (k + 1) a n 4 = bl_FloatsRoots.l0 k a (n + 32) := by
  simp only [bl_FloatsRoots.l1]
  rw [if_neg (by decide), IntWalk.wrap64_in _ (by omega)]
theorem FloatsRoots_head (a : Nat) (n : Int) (hn : n ≤ 64) (k : Nat) : bl_FloatsRoots.l0 (k + 1) a n = bl_FloatsRoots.l1 k a n 1 := by
  simp only [bl_FloatsRoots.l0]
  rw [if_pos hn]
theorem FloatsRoots_row (a : Nat) (ha : a < 18446744073709551616) (n : Int) (hn : 0 ≤ n ∧ n ≤ 64) (k : Nat) (hk : 140 ≤ k) : bl_FloatsRoots.l0 (k + 1 + 1 + 1 + 1 + 1) a n = bl_FloatsRoots.l0 k a (n + 32) := by
  rw [FloatsRoots_head a n hn.2]
  rw [FloatsRoots_step a ha n 1 (by decide) (by decide) _ (by omega), show (1 : Int) + 1 = 2 from rfl]
  rw [FloatsRoots_step a ha n 2 (by decide) (by decide) _ (by omega), show (2 : Int) + 1 = 3 from rfl]
  rw [FloatsRoots_step a ha n 3 (by decide) (by decide) _ (by omega), show (3 : Int) + 1 = 4 from rfl]
  rw [FloatsRoots_next a n hn]
theorem FloatsRoots_both (a : Nat) (ha : a < 18446744073709551616) (k : Nat) (hk : 140 ≤ k) : bl_FloatsRoots.l0 (k + 1 + 1 + 1 + 1 + 1 + 1 + 1 + 1 + 1 + 1 + 1) a 32 = some true := by
  rw [FloatsRoots_row a ha 32 (by decide) _ (by omega), show (32 : Int) + 32 = 64 from rfl, FloatsRoots_row a ha 64 (by decide) _ (by omega), show (64 : Int) + 32 = 96 from rfl]
  simp only [bl_FloatsRoots.l0]
  rw [if_neg (by decide)]
theorem FloatsRoots_whole (a : Int) (k : Nat) (h : bl_FloatsRoots.l0 k a 32 = some true) : bl_FloatsRoots.f k a = some true := by
  unfold bl_FloatsRoots.f
  rw [show bl_awake.f k = some true from rfl]
  simp only [Option.bind_some]
  rw [if_pos True.intro, h]
theorem FloatsRoots : bl_FloatsRoots.Pure := by
  intro a0 h0
  have h0 := bounds_u64 h0
  obtain ⟨a, rfl⟩ := Int.eq_ofNat_of_zero_le h0.1
  have ha : a < 18446744073709551616 := by omega
  exact ⟨_, FloatsRoots_whole a _ (FloatsRoots_both a ha 140 (Nat.le_refl _))⟩
end Go.Proofs.Ytjfmomogidgbpaa.Pure
namespace Go.Proofs.Ytjfmomogidgbpaa.PFm
open Go.RowKit Go.Proofs.Ytjfmomogidgbpaa.PFl Go.Proofs.YtjfmomogidgbpaaW.PrintWords Go.Proofs.YtjfmomogidgbpaaW.PrintLast Go.Proofs.YtjfmomogidgbpaaW.PrintMore
attribute [local go_sem] max2_int min2_int max_two min_two max_three min_three max_four min_four
set_option linter.unusedVariables false
set_option linter.unusedSimpArgs false
mutual
def bl_FloatsWhole.l0 : Nat → Int → Int → Option (Bool)
  | 0, _, _ => none
  | k + 1, x0, x4 => if x4 ≤ 64 then (bl_FloatsWhole.l1 k x0 x4 4) else (some true)
def bl_FloatsWhole.l1 : Nat → Int → Int → Int → Option (Bool)
  | 0, _, _, _ => none
  | k + 1, x0, x4, x5 => if x5 ≤ 7 then ((floats_Un.f k x4 x5 x0).bind fun bt306 => ((br_Un.f x4 x5 x0).bind fun bt308 => (if bt306.1 = bt308.1 then (if bt306.2 = bt308.2 then (bl_FloatsWhole.l1 k x0 x4 (wrap64 (x5 + 1))) else (some false)) else (some false)))) else (bl_FloatsWhole.l0 k x0 (wrap64 (x4 + 32)))
end
def bl_FloatsWhole.f (k : Nat) (a0 : Int) : Option (Bool) := (bl_awake.f k).bind fun t305 => (if t305 = true then (bl_FloatsWhole.l0 k a0 32) else (some false))
theorem bl_FloatsWhole.mono_l : ∀ k, (∀ y0 y1, LeO (bl_FloatsWhole.l0 k y0 y1) (bl_FloatsWhole.l0 (k + 1) y0 y1)) ∧ (∀ y0 y1 y2, LeO (bl_FloatsWhole.l1 k y0 y1 y2) (bl_FloatsWhole.l1 (k + 1) y0 y1 y2)) := by
  intro k
  induction k with
  | zero => exact ⟨fun _ _ r h => by simp [bl_FloatsWhole.l0] at h, fun _ _ _ r h => by simp [bl_FloatsWhole.l1] at h⟩
  | succ k ih =>
    obtain ⟨ih0, ih1⟩ := ih
    refine ⟨?_, ?_⟩
    · intro y0 y1
      unfold bl_FloatsWhole.l0
      repeat' first
      | (with_reducible exact ih0 _ _)
      | (with_reducible exact ih1 _ _ _)
      | (with_reducible exact bl_awake.mono _)
      | (with_reducible exact floats_Un.mono _ _ _ _)
      | (with_reducible exact LeO.refl _)
      | (with_reducible exact LeO.none _)
      | (with_reducible refine LeO.ite ?_ ?_)
      | (with_reducible refine LeO.bind ?_ (fun _ => ?_))
      | exact ih0 _ _
      | exact ih1 _ _ _
      | exact bl_awake.mono _
      | exact floats_Un.mono _ _ _ _
      | exact LeO.none _
      | refine LeO.ite ?_ ?_
      | refine LeO.bind ?_ (fun _ => ?_)
    · intro y0 y1 y2
      unfold bl_FloatsWhole.l1
      repeat' first
      | (with_reducible exact ih0 _ _)
      | (with_reducible exact ih1 _ _ _)
      | (with_reducible exact bl_awake.mono _)
      | (with_reducible exact floats_Un.mono _ _ _ _)
      | (with_reducible exact LeO.refl _)
      | (with_reducible exact LeO.none _)
      | (with_reducible refine LeO.ite ?_ ?_)
      | (with_reducible refine LeO.bind ?_ (fun _ => ?_))
      | exact ih0 _ _
      | exact ih1 _ _ _
      | exact bl_awake.mono _
      | exact floats_Un.mono _ _ _ _
      | exact LeO.none _
      | refine LeO.ite ?_ ?_
      | refine LeO.bind ?_ (fun _ => ?_)
theorem bl_FloatsWhole.mono : ∀ a0 k, LeO (bl_FloatsWhole.f k a0) (bl_FloatsWhole.f (k + 1) a0) := by
  intro a0 k
  obtain ⟨ih0, ih1⟩ := bl_FloatsWhole.mono_l k
  unfold bl_FloatsWhole.f
  repeat' first
      | (with_reducible exact ih0 _ _)
      | (with_reducible exact ih1 _ _ _)
      | (with_reducible exact bl_awake.mono _)
      | (with_reducible exact floats_Un.mono _ _ _ _)
      | (with_reducible exact LeO.refl _)
      | (with_reducible exact LeO.none _)
      | (with_reducible refine LeO.ite ?_ ?_)
      | (with_reducible refine LeO.bind ?_ (fun _ => ?_))
      | exact ih0 _ _
      | exact ih1 _ _ _
      | exact bl_awake.mono _
      | exact floats_Un.mono _ _ _ _
      | exact LeO.none _
      | refine LeO.ite ?_ ?_
      | refine LeO.bind ?_ (fun _ => ?_)
set_option maxHeartbeats 8000000 in
set_option maxRecDepth 100000 in
theorem bl_FloatsWhole.calls (k : Nat) (a0 : Int) (r : Bool) (w : World) (h : bl_FloatsWhole.f k a0 = some r) :
    Calls Try.prog 15 #[.int .u64 a0] w fun e w' => e = .returned (.bool r) ∧ Below w.heap.size w w' := by
  have HB := As0.mk (Below.refl w.heap.size w)
  have H : ((bl_awake.f k).bind fun t305 => (if t305 = true then (bl_FloatsWhole.l0 k a0 32) else (some false))) = some r := h
  clear h
  replace H := Option.bind_eq_some_iff.mp H
  obtain ⟨t305, A20, H⟩ := H
  replace H : (if t305 = true then (bl_FloatsWhole.l0 k a0 32) else (some false)) = some r := H
  have A2 := As0.mk A20
  clear A20
  by_cases c3 : t305 = true
  · subst c3
    have H1 : (bl_FloatsWhole.l0 k a0 32) = some r := by rw [if_pos rfl] at H; exact H
    clear H
    have H := H1
    clear H1
    have H' := As0.mk H
    clear H
    go_enter Try.func15, Try.ntmps15
    go_wp2_with (first | ((with_reducible refine gcl (f := 16) rfl ?_); refine goesL_ (some 10) rfl rfl Try.func16 (by kernel_rfl) rfl #[] rfl (by (try simp only [List.map_toArray, List.map_cons, List.map_nil]); first | done | rfl) ?_; (with_reducible refine (bl_awake.calls k  true _ A2.out).mono ?_); rintro e w4 ⟨rfl, hb⟩; refine ⟨_, rfl, ?_⟩; have n0_ := As0.mk (bst (by repeat (first | (with_reducible first | exact HB.out | apply bal | apply pwB_ | apply bd1) | exact HB.out)) hb); clear HB; have HB := n0_; clear n0_; (try clear hb); (try clear hb2); (try clear hk); (try clear hi)))
    go_loopg [4] k (fun kq v4 w' => ∃ (x4_1 : Int), v4 = .int .i64 x4_1 ∧ As0 (bl_FloatsWhole.l0 kq a0 x4_1 = some r) ∧ As0 (kq ≤ k) ∧ As0 (Below w.heap.size w w'))
    case atStart => exact ⟨(32), (by first | rfl | (simp; done) | (simp [*]; done)), H', ⟨Nat.le_refl _⟩, ⟨by repeat (first | (with_reducible first | exact HB.out | apply bal | apply pwB_ | apply bd1) | exact HB.out)⟩⟩
    case round =>
      clear H'
      try clear c1
      try clear p2
      try clear c3
      obtain ⟨x4_1, rfl, HA, HK1, HB⟩ := hrel
      cases gk with
      | zero => exact absurd HA.out (by simp [bl_FloatsWhole.l0])
      | succ k1 =>
        have H := HA.out
        clear HA
        simp only [bl_FloatsWhole.l0] at H
        by_cases c5 : x4_1 ≤ 64
        · rw [if_pos c5] at H
          have c5b0 : decide (x4_1 ≤ 64) = true := decide_eq_true c5
          clear c5
          have H' := As0.mk H
          clear H
          go_wp2
          go_loopg [5] k1 (fun kq v5 w' => ∃ (x5_2 : Int), v5 = .int .i64 x5_2 ∧ As0 (bl_FloatsWhole.l1 kq a0 x4_1 x5_2 = some r) ∧ As0 (kq ≤ k1) ∧ As0 (Below w.heap.size w w'))
          case atStart => exact ⟨(4), (by first | rfl | (simp; done) | (simp [*]; done)), H', ⟨Nat.le_refl _⟩, ⟨by repeat (first | (with_reducible first | exact HB.out | apply bal | apply pwB_ | apply bd1) | exact HB.out)⟩⟩
          case round =>
            clear H'
            try clear c1
            try clear p2
            try clear c3
            try clear c5
            try clear c5b0
            try clear p2
            obtain ⟨x5_2, rfl, HA, HK2, HB⟩ := hrel
            cases gk with
            | zero => exact absurd HA.out (by simp [bl_FloatsWhole.l1])
            | succ k2 =>
              have H := HA.out
              clear HA
              simp only [bl_FloatsWhole.l1] at H
              by_cases c6 : x5_2 ≤ 7
              · rw [if_pos c6] at H
                have c6b0 : decide (x5_2 ≤ 7) = true := decide_eq_true c6
                clear c6
                replace H := Option.bind_eq_some_iff.mp H
                obtain ⟨⟨t306, t307⟩, A70, H⟩ := H
                replace H : ((br_Un.f x4_1 x5_2 a0).bind fun bt308 => (if t306 = bt308.1 then (if t307 = bt308.2 then (bl_FloatsWhole.l1 k2 a0 x4_1 (wrap64 (x5_2 + 1))) else (some false)) else (some false))) = some r := H
                have A7 := As0.mk A70
                clear A70
                replace H := Option.bind_eq_some_iff.mp H
                obtain ⟨⟨t308, t309⟩, A80, H⟩ := H
                replace H : (if t306 = t308 then (if t307 = t309 then (bl_FloatsWhole.l1 k2 a0 x4_1 (wrap64 (x5_2 + 1))) else (some false)) else (some false)) = some r := H
                have A8 := As0.mk A80
                clear A80
                by_cases c9 : t306 = t308
                · rw [if_pos c9] at H
                  have c9b0 : (t306 == t308) = true := beq_iff_eq.mpr c9
                  have c9b1 : (t306 != t308) = false := bne_eq_false_iff_eq.mpr c9
                  clear c9
                  by_cases c10 : t307 = t309
                  · rw [if_pos c10] at H
                    have c10b0 : (t307 == t309) = true := beq_iff_eq.mpr c10
                    have c10b1 : (t307 != t309) = false := bne_eq_false_iff_eq.mpr c10
                    clear c10
                    have H' := As0.mk H
                    clear H
                    go_wp2_with (first | ((with_reducible refine gcl (f := 20) rfl ?_); refine goesL_ (some 25) rfl rfl Try.func20 (by kernel_rfl) rfl #[.int .i64 x4_1, .int .i64 x5_2, .int .u64 a0] rfl (by (try simp only [List.map_toArray, List.map_cons, List.map_nil]); first | done | rfl) ?_; (with_reducible refine (floats_Un.calls k2 x4_1 x5_2 a0 t306 t307 _ A7.out).mono ?_); rintro e w11 ⟨rfl, hb⟩; refine ⟨_, rfl, ?_⟩; have n0_ := As0.mk (bst (by repeat (first | (with_reducible first | exact HB.out | apply bal | apply pwB_ | apply bd1) | exact HB.out)) hb); clear HB; have HB := n0_; clear n0_; (try clear hb); (try clear hb2); (try clear hk); (try clear hi)) | ((with_reducible refine gcl (f := 30) rfl ?_); refine goesL_ (some 32) rfl rfl Try.func30 (by kernel_rfl) rfl #[.int .i64 x4_1, .int .i64 x5_2, .int .u64 a0] rfl (by (try simp only [List.map_toArray, List.map_cons, List.map_nil]); first | done | rfl) ?_; (with_reducible refine (br_Un.calls x4_1 x5_2 a0 t308 t309 _ A8.out).mono ?_); rintro e w12 ⟨rfl, hb⟩; refine ⟨_, rfl, ?_⟩; have n0_ := As0.mk (bst (by repeat (first | (with_reducible first | exact HB.out | apply bal | apply pwB_ | apply bd1) | exact HB.out)) hb); clear HB; have HB := n0_; clear n0_; (try clear hb); (try clear hb2); (try clear hk); (try clear hi)))
                    go_roundg k2
                    case measure => have := HK1.out; have := HK2.out; omega
                    case rel => exact ⟨(wrap64 (x5_2 + 1)), (by first | rfl | (simp; done) | (simp [*]; done)), H', ⟨by have := HK1.out; have := HK2.out; omega⟩, ⟨by repeat (first | (with_reducible first | exact HB.out | apply bal | apply pwB_ | apply bd1) | exact HB.out)⟩⟩
                  · rw [if_neg c10] at H
                    have c10b0 : (t307 == t309) = false := beq_eq_false_iff_ne.mpr c10
                    have c10b1 : (t307 != t309) = true := bne_iff_ne.mpr c10
                    obtain rfl := Option.some.inj H
                    go_wp2_with (first | ((with_reducible refine gcl (f := 20) rfl ?_); refine goesL_ (some 25) rfl rfl Try.func20 (by kernel_rfl) rfl #[.int .i64 x4_1, .int .i64 x5_2, .int .u64 a0] rfl (by (try simp only [List.map_toArray, List.map_cons, List.map_nil]); first | done | rfl) ?_; (with_reducible refine (floats_Un.calls k2 x4_1 x5_2 a0 t306 t307 _ A7.out).mono ?_); rintro e w13 ⟨rfl, hb⟩; refine ⟨_, rfl, ?_⟩; have n0_ := As0.mk (bst (by repeat (first | (with_reducible first | exact HB.out | apply bal | apply pwB_ | apply bd1) | exact HB.out)) hb); clear HB; have HB := n0_; clear n0_; (try clear hb); (try clear hb2); (try clear hk); (try clear hi)) | ((with_reducible refine gcl (f := 30) rfl ?_); refine goesL_ (some 32) rfl rfl Try.func30 (by kernel_rfl) rfl #[.int .i64 x4_1, .int .i64 x5_2, .int .u64 a0] rfl (by (try simp only [List.map_toArray, List.map_cons, List.map_nil]); first | done | rfl) ?_; (with_reducible refine (br_Un.calls x4_1 x5_2 a0 t308 t309 _ A8.out).mono ?_); rintro e w14 ⟨rfl, hb⟩; refine ⟨_, rfl, ?_⟩; have n0_ := As0.mk (bst (by repeat (first | (with_reducible first | exact HB.out | apply bal | apply pwB_ | apply bd1) | exact HB.out)) hb); clear HB; have HB := n0_; clear n0_; (try clear hb); (try clear hb2); (try clear hk); (try clear hi)))
                    go_ret
                    exact ⟨by first | rfl | (simp [*] <;> rfl), by repeat (first | (with_reducible first | exact HB.out | apply bal | apply pwB_ | apply bd1) | exact HB.out)⟩
                · rw [if_neg c9] at H
                  have c9b0 : (t306 == t308) = false := beq_eq_false_iff_ne.mpr c9
                  have c9b1 : (t306 != t308) = true := bne_iff_ne.mpr c9
                  obtain rfl := Option.some.inj H
                  go_wp2_with (first | ((with_reducible refine gcl (f := 20) rfl ?_); refine goesL_ (some 25) rfl rfl Try.func20 (by kernel_rfl) rfl #[.int .i64 x4_1, .int .i64 x5_2, .int .u64 a0] rfl (by (try simp only [List.map_toArray, List.map_cons, List.map_nil]); first | done | rfl) ?_; (with_reducible refine (floats_Un.calls k2 x4_1 x5_2 a0 t306 t307 _ A7.out).mono ?_); rintro e w15 ⟨rfl, hb⟩; refine ⟨_, rfl, ?_⟩; have n0_ := As0.mk (bst (by repeat (first | (with_reducible first | exact HB.out | apply bal | apply pwB_ | apply bd1) | exact HB.out)) hb); clear HB; have HB := n0_; clear n0_; (try clear hb); (try clear hb2); (try clear hk); (try clear hi)) | ((with_reducible refine gcl (f := 30) rfl ?_); refine goesL_ (some 32) rfl rfl Try.func30 (by kernel_rfl) rfl #[.int .i64 x4_1, .int .i64 x5_2, .int .u64 a0] rfl (by (try simp only [List.map_toArray, List.map_cons, List.map_nil]); first | done | rfl) ?_; (with_reducible refine (br_Un.calls x4_1 x5_2 a0 t308 t309 _ A8.out).mono ?_); rintro e w16 ⟨rfl, hb⟩; refine ⟨_, rfl, ?_⟩; have n0_ := As0.mk (bst (by repeat (first | (with_reducible first | exact HB.out | apply bal | apply pwB_ | apply bd1) | exact HB.out)) hb); clear HB; have HB := n0_; clear n0_; (try clear hb); (try clear hb2); (try clear hk); (try clear hi)))
                  go_ret
                  exact ⟨by first | rfl | (simp [*] <;> rfl), by repeat (first | (with_reducible first | exact HB.out | apply bal | apply pwB_ | apply bd1) | exact HB.out)⟩
              · rw [if_neg c6] at H
                have c6b0 : decide (x5_2 ≤ 7) = false := decide_eq_false c6
                clear c6
                have H' := As0.mk H
                clear H
                go_wp2
                go_roundg k2
                case measure => have := HK1.out; have := HK2.out; omega
                case rel => exact ⟨(wrap64 (x4_1 + 32)), (by first | rfl | (simp; done) | (simp [*]; done)), H', ⟨by have := HK1.out; have := HK2.out; omega⟩, ⟨by repeat (first | (with_reducible first | exact HB.out | apply bal | apply pwB_ | apply bd1) | exact HB.out)⟩⟩
        · rw [if_neg c5] at H
          have c5b0 : decide (x4_1 ≤ 64) = false := decide_eq_false c5
          clear c5
          obtain rfl := Option.some.inj H
          go_wp2
          go_ret
          exact ⟨by first | rfl | (simp [*] <;> rfl), by repeat (first | (with_reducible first | exact HB.out | apply bal | apply pwB_ | apply bd1) | exact HB.out)⟩
  · replace c3 := Bool.eq_false_iff.mpr c3
    subst c3
    have H1 : (some false) = some r := by rw [if_neg (show ¬ (false = true) by decide)] at H; exact H
    clear H
    have H := H1
    clear H1
    obtain rfl := Option.some.inj H
    go_enter Try.func15, Try.ntmps15
    go_wp2_with (first | ((with_reducible refine gcl (f := 16) rfl ?_); refine goesL_ (some 10) rfl rfl Try.func16 (by kernel_rfl) rfl #[] rfl (by (try simp only [List.map_toArray, List.map_cons, List.map_nil]); first | done | rfl) ?_; (with_reducible refine (bl_awake.calls k  false _ A2.out).mono ?_); rintro e w17 ⟨rfl, hb⟩; refine ⟨_, rfl, ?_⟩; have n0_ := As0.mk (bst (by repeat (first | (with_reducible first | exact HB.out | apply bal | apply pwB_ | apply bd1) | exact HB.out)) hb); clear HB; have HB := n0_; clear n0_; (try clear hb); (try clear hb2); (try clear hk); (try clear hi)))
    go_ret
    exact ⟨by first | rfl | (simp [*] <;> rfl), by repeat (first | (with_reducible first | exact HB.out | apply bal | apply pwB_ | apply bd1) | exact HB.out)⟩
/-- THE ONE PURE STATEMENT of bl_FloatsWhole: yours. -/
def bl_FloatsWhole.Pure : Prop := ∀ (a0 : Int), (Lit.int .u64 a0).wf = true → ∃ k, bl_FloatsWhole.f k a0 = some true
theorem bl_FloatsWhole.walk (P : bl_FloatsWhole.Pure) (a0 : Int) (w : World) (w0 : (Lit.int .u64 a0).wf = true) :
    Calls Try.prog 15 #[.int .u64 a0] w fun e w' => e = .returned (.bool true) ∧ Below w.heap.size w w' := by
  obtain ⟨k, h⟩ := P a0 w0
  refine (bl_FloatsWhole.calls k a0 true w h).mono ?_
  rintro e w' ⟨rfl, hd⟩
  exact ⟨rfl, hd⟩
end Go.Proofs.Ytjfmomogidgbpaa.PFm
namespace Go.Proofs.Ytjfmomogidgbpaa.Pure
set_option linter.unusedVariables false
set_option linter.unusedSimpArgs false
open Go.RowKit Go.Proofs.Ytjfmomogidgbpaa.PFl Go.Proofs.Ytjfmomogidgbpaa.PFm Go.Proofs.Ytjfmomogidgbpaa.Fl Go.Proofs.YtjfmomogidgbpaaW.PrintWords Go.Proofs.YtjfmomogidgbpaaW.PrintLast
theorem FloatsWhole_ref (n op : Int) (a : Nat) (ha : a < 18446744073709551616) : br_Un.f n op a = some (unF n op a) := by
  unfold br_Un.f
  rw [if_pos (by omega)]
theorem FloatsWhole_step (a : Nat) (ha : a < 18446744073709551616) (n op : Int) (h : op ≤ 7) (h0 : 0 ≤ op) (k : Nat) (hk : 140 ≤ k) :
    bl_FloatsWhole.l1 (k + 1) a n op = bl_FloatsWhole.l1 k a n (op + 1) := by
  simp only [bl_FloatsWhole.l1]
  rw [if_pos h, c_Un n op a ha k hk, FloatsWhole_ref n op a ha]
  simp only [Option.bind_some]
  rw [if_pos True.intro, if_pos True.intro, IntWalk.wrap64_in _ (by omega)]
theorem FloatsWhole_next (a : Nat) (n : Int) (hn : 0 ≤ n ∧ n ≤ 64) (k : Nat) : bl_FloatsWhole.l1 (k + 1) a n 8 = bl_FloatsWhole.l0 k a (n + 32) := by
  simp only [bl_FloatsWhole.l1]
  rw [if_neg (by decide), IntWalk.wrap64_in _ (by omega)]
theorem FloatsWhole_head (a : Nat) (n : Int) (hn : n ≤ 64) (k : Nat) : bl_FloatsWhole.l0 (k + 1) a n = bl_FloatsWhole.l1 k a n 4 := by
  simp only [bl_FloatsWhole.l0]
  rw [if_pos hn]
theorem FloatsWhole_row (a : Nat) (ha : a < 18446744073709551616) (n : Int) (hn : 0 ≤ n ∧ n ≤ 64) (k : Nat) (hk : 140 ≤ k) : bl_FloatsWhole.l0 (k + 1 + 1 + 1 + 1 + 1 + 1) a n = bl_FloatsWhole.l0 k a (n + 32) := by
  rw [FloatsWhole_head a n hn.2]
  rw [FloatsWhole_step a ha n 4 (by decide) (by decide) _ (by omega), show (4 : Int) + 1 = 5 from rfl]
  rw [FloatsWhole_step a ha n 5 (by decide) (by decide) _ (by omega), show (5 : Int) + 1 = 6 from rfl]
  rw [FloatsWhole_step a ha n 6 (by decide) (by decide) _ (by omega), show (6 : Int) + 1 = 7 from rfl]
  rw [FloatsWhole_step a ha n 7 (by decide) (by decide) _ (by omega), show (7 : Int) + 1 = 8 from rfl]
  rw [FloatsWhole_next a n hn]
theorem FloatsWhole_both (a : Nat) (ha : a < 18446744073709551616) (k : Nat) (hk : 140 ≤ k) : bl_FloatsWhole.l0 (k + 1 + 1 + 1 + 1 + 1 + 1 + 1 + 1 + 1 + 1 + 1 + 1 + 1) a 32 = some true := by
  rw [FloatsWhole_row a ha 32 (by decide) _ (by omega), show (32 : Int) + 32 = 64 from rfl, FloatsWhole_row a ha 64 (by decide) _ (by omega), show (64 : Int) + 32 = 96 from rfl]
  simp only [bl_FloatsWhole.l0]
  rw [if_neg (by decide)]
theorem FloatsWhole_whole (a : Int) (k : Nat) (h : bl_FloatsWhole.l0 k a 32 = some true) : bl_FloatsWhole.f k a = some true := by
  unfold bl_FloatsWhole.f
  rw [show bl_awake.f k = some true from rfl]
  simp only [Option.bind_some]
  rw [if_pos True.intro, h]
theorem FloatsWhole : bl_FloatsWhole.Pure := by
  intro a0 h0
  have h0 := bounds_u64 h0
  obtain ⟨a, rfl⟩ := Int.eq_ofNat_of_zero_le h0.1
  have ha : a < 18446744073709551616 := by omega
  exact ⟨_, FloatsWhole_whole a _ (FloatsWhole_both a ha 140 (Nat.le_refl _))⟩
end Go.Proofs.Ytjfmomogidgbpaa.Pure
namespace Go.Proofs.Ytjfmomogidgbpaa.Pure
set_option linter.unusedVariables false
set_option linter.unusedSimpArgs false
open Go.RowKit Go.Proofs.Ytjfmomogidgbpaa.PFl Go.Proofs.Ytjfmomogidgbpaa.PFm Go.Proofs.Ytjfmomogidgbpaa.Fl Go.Proofs.YtjfmomogidgbpaaW.PrintWords Go.Proofs.YtjfmomogidgbpaaW.PrintLast
theorem FloatsOne_ref (n op : Int) (a : Nat) (ha : a < 18446744073709551616) : br_Un.f n op a = some (unF n op a) := by
  unfold br_Un.f
  rw [if_pos (by omega)]
theorem FloatsOne : bl_FloatsOne.Pure := by
  intro n op a0 a1 _ _ h0 h1
  have h0 := bounds_u64 h0
  have h1 := bounds_u64 h1
  obtain ⟨a, rfl⟩ := Int.eq_ofNat_of_zero_le h0.1
  obtain ⟨b, rfl⟩ := Int.eq_ofNat_of_zero_le h1.1
  have ha : a < 18446744073709551616 := by omega
  have hb : b < 18446744073709551616 := by omega
  refine ⟨300, ?_⟩
  unfold bl_FloatsOne.f
  rw [show bl_awake.f 300 = some true from rfl]
  simp only [Option.bind_some]
  rw [if_pos True.intro, c_Un n op a ha 300 (by decide), FloatsOne_ref n op a ha, c_Rel n op a b ha hb 300 (by decide), show br_Rel.f n op a b = some (relF n op a b) from rfl]
  simp only [Option.bind_some]
  rw [if_pos True.intro, if_pos True.intro, if_pos (beq_self_eq_true _), beq_self_eq_true]
end Go.Proofs.Ytjfmomogidgbpaa.Pure
