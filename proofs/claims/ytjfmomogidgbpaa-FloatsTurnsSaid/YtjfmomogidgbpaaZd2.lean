/-
  The contract of math/bits.Len64, which the kit's print does not take, in the words of the kit's Lib.bitLen.
-/
import Derived.Test.YtjfmomogidgbpaaProg
import Derived.WalkKit
import Derived.KernelRfl
import Derived.Lib.BitFns
import Derived.Below
import Derived.Deep.Draws
import Derived.Deep.AppendLies
import Derived.Maps.AppendAt
import Derived.OwnWalk
import Derived.Laws.BytesArg
import Derived.Laws.MakeOwn
import Derived.Laws.OwnMore
import Derived.Deep.OwnRows
import Derived.Tactics
import Derived.Lib.ConvBytes
import Derived.Laws.Slices
import Derived.RowKit3
import Derived.Deep.LoopGhost
import Derived.Deep.QuietTactic
import Derived.BigQuiet
import Derived.WideLaws
import Derived.Deep.DeepCutAuto
import Derived.Deep.CutBlock
import Derived.Deep.RegionHeld3
import Derived.Laws.Rows
import Derived.Lib.AppendStr
import Derived.ArgAppend
import Derived.Laws.IdiomCopy
import Derived.OrdersHeld
import Derived.Laws.BitsLemmas
import Derived.RowKit
import Derived.Test.YtjfmomogidgbpaaZd0
namespace Go.Proofs.Ytjfmomogidgbpaa.PFl
open Go.RowKit Go.Proofs.YtjfmomogidgbpaaW.PrintWords
theorem tab_size : Lib.len8tab.size = 256 := by decide +kernel
theorem tab_fin : ∀ n : Fin 256, (Lib.len8tab[n.val]'(by rw [tab_size]; exact n.isLt)).toNat = Lib.bitLen n.val := by decide +kernel
theorem tab_at (i : Nat) (h : i < Lib.len8tab.size) : (Lib.len8tab[i]'h).toNat = Lib.bitLen i := tab_fin ⟨i, by rw [tab_size] at h; exact h⟩
theorem small (i : Nat) (h : i < 256) : Lib.bitLen i ≤ 8 := Lib.bitLen_le i 8 (by decide) h
theorem close (x : Int) (q : Nat) (k : Int) (h : q < Lib.len8tab.size) (hq : q < 256) (e : (Lib.bitLen x.toNat : Int) = k + (Lib.bitLen q : Int)) (hk : 0 ≤ k ∧ k ≤ 56) :
    wrap64 (k + wrap64 ((Lib.len8tab[q]'h).toNat : Int)) = (Lib.bitLen x.toNat : Int) := by
  rw [tab_at, e]
  have := small q hq
  unfold wrap64
  omega
set_option maxHeartbeats 400000 in
set_option maxRecDepth 100000 in
theorem bits_Len64.any (x : Int) (w : World) (h0 : 0 ≤ x) (h1 : x ≤ 18446744073709551615) :
    Calls Try.prog 63 #[.int .u64 x] w fun e w' => e = .returned (.int .i64 (Lib.bitLen x.toNat)) ∧ w' = w := by
  have hT : (256 : Int) ≤ (Lib.len8tab.size : Int) := by rw [tab_size]; decide
  go_enter Try.func63, Try.ntmps63
  go_wp2
  all_goals (go_ret; refine ⟨congrArg Ending.returned (congrArg (Value.int IntKind.i64) ?_), rfl⟩)
  · exact close x _ 56 _ (by omega) (by
      have s := Lib.bitLen_shift56 x.toNat (by omega) (by omega)
      rw [s, show (x / 4294967296 / 65536 / 256).toNat = x.toNat / 72057594037927936 from by omega]
      rfl) (by omega)
  · exact close x _ 48 _ (by omega) (by
      have s := Lib.bitLen_shift48 x.toNat (by omega) (by omega)
      rw [s, show (x / 4294967296 / 65536).toNat = x.toNat / 281474976710656 from by omega]
      rfl) (by omega)
  · exact close x _ 40 _ (by omega) (by
      have s := Lib.bitLen_shift40 x.toNat (by omega) (by omega)
      rw [s, show (x / 4294967296 / 256).toNat = x.toNat / 1099511627776 from by omega]
      rfl) (by omega)
  · exact close x _ 32 _ (by omega) (by
      have s := Lib.bitLen_shift32 x.toNat (by omega) (by omega)
      rw [s, show (x / 4294967296).toNat = x.toNat / 4294967296 from by omega]
      rfl) (by omega)
  · exact close x _ 24 _ (by omega) (by
      have s := Lib.bitLen_shift24 x.toNat (by omega) (by omega)
      rw [s, show (x / 65536 / 256).toNat = x.toNat / 16777216 from by omega]
      rfl) (by omega)
  · exact close x _ 16 _ (by omega) (by
      have s := Lib.bitLen_shift16 x.toNat (by omega) (by omega)
      rw [s, show (x / 65536).toNat = x.toNat / 65536 from by omega]
      rfl) (by omega)
  · exact close x _ 8 _ (by omega) (by
      have s := Lib.bitLen_shift8 x.toNat (by omega) (by omega)
      rw [s, show (x / 256).toNat = x.toNat / 256 from by omega]
      rfl) (by omega)
  · have c := close x x.toNat 0 (by omega) (by omega) (by omega) (by omega)
    rw [Int.zero_add] at c
    rw [← c]
def bits_Len64.f (a0 : Int) : Option Int := if 0 ≤ a0 ∧ a0 ≤ 18446744073709551615 then some (Lib.bitLen a0.toNat) else none
theorem bits_Len64.calls (a0 : Int) (r : Int) (w : World) (h : bits_Len64.f a0 = some r) :
    Calls Try.prog 63 #[.int .u64 a0] w fun e w' => e = .returned (.int .i64 r) ∧ Drawn0 w w' := by
  unfold bits_Len64.f at h
  split at h
  · rename_i hb
    obtain rfl := Option.some.inj h
    refine (bits_Len64.any a0 w hb.1 hb.2).mono fun e w' he => ⟨he.1, ?_⟩
    rw [he.2]
    exact Drawn0.refl w
  · cases h
theorem zsi {α : Type} (l : List α) (i : Nat) (a : α) : l.toArray.setIfInBounds i a = (l.set i a).toArray := List.setIfInBounds_toArray ..
theorem zcz {α : Type} (a : α) (l : List α) (b : α) : (a :: l).set 0 b = b :: l := rfl
theorem zcs {α : Type} (a : α) (l : List α) (n : Nat) (b : α) : (a :: l).set (n + 1) b = a :: l.set n b := rfl
theorem zmt {α β : Type} (f : α → β) (l : List α) : l.toArray.map f = (l.map f).toArray := List.map_toArray ..
theorem zmc {α β : Type} (f : α → β) (a : α) (l : List α) : (a :: l).map f = f a :: l.map f := rfl
theorem zmn {α β : Type} (f : α → β) : ([] : List α).map f = [] := rfl
theorem zob {α β : Type} {o : Option α} {f : α → Option β} {b : β} (h : o.bind f = some b) : ∃ a, o = some a ∧ f a = some b := Option.bind_eq_some_iff.mp h
end Go.Proofs.Ytjfmomogidgbpaa.PFl
namespace Go.Proofs.Ytjfmomogidgbpaa.PFl
open Go.RowKit Go.Proofs.YtjfmomogidgbpaaW.PrintWords Go.Proofs.YtjfmomogidgbpaaW.PrintLast Go.Proofs.YtjfmomogidgbpaaW.PrintMore
attribute [local go_sem] max2_int min2_int max_two min_two max_three min_three max_four min_four
set_option linter.unusedVariables false
set_option linter.unusedSimpArgs false
def errW : Option Int → Value
 | none => .nilIface
 | some c => .iface 0 (.int .i64 c)
theorem errW_none : errW none = .nilIface := rfl
theorem errW_some (c : Int) : errW (some c) = .iface 0 (.int .i64 c) := rfl
-- the values' own types
end Go.Proofs.Ytjfmomogidgbpaa.PFl
namespace Go.Proofs.Ytjfmomogidgbpaa.PFl
open Go.RowKit Go.Proofs.YtjfmomogidgbpaaW.PrintWords Go.Proofs.YtjfmomogidgbpaaW.PrintLast Go.Proofs.YtjfmomogidgbpaaW.PrintMore
attribute [local go_sem] max2_int min2_int max_two min_two max_three min_three max_four min_four
set_option linter.unusedVariables false
set_option linter.unusedSimpArgs false
theorem eqA43 (d : Nat) (w : World) (x0 y0 : Int) (x1 y1 : Int) :
  (Op.equalIn (d + 2) 43 (.agg #[.int .i64 x0, .int .i64 x1]) (.agg #[.int .i64 y0, .int .i64 y1])).run Try.prog w = .ok (x0 == y0 && (x1 == y1)) w := by
 refine eqA_of Try.underlying43 (by kernel_rfl) ?_
 refine eqf_cons (by rfl) (by go_simp; rfl) (by go_simp; rfl) (by go_simp) ?_
 exact eqf_last (by rfl) (by go_simp; rfl) (by go_simp; rfl) (by go_simp)
end Go.Proofs.Ytjfmomogidgbpaa.PFl
namespace Go.Proofs.Ytjfmomogidgbpaa.PFl
open Go.RowKit Go.Proofs.YtjfmomogidgbpaaW.PrintWords Go.Proofs.YtjfmomogidgbpaaW.PrintLast Go.Proofs.YtjfmomogidgbpaaW.PrintMore
attribute [local go_sem] max2_int min2_int max_two min_two max_three min_three max_four min_four
set_option linter.unusedVariables false
set_option linter.unusedSimpArgs false
attribute [local go_sem high] eqA43
def floats_of.f (a0 : Int) : Option (Int × Int) := if a0 = 32 then (some (23, 8)) else (if a0 = 64 then (some (52, 11)) else (some (0, 0)))
set_option maxHeartbeats 8000000 in
set_option maxRecDepth 100000 in
theorem floats_of.calls (a0 : Int) (r1 : Int) (r2 : Int) (w : World) (h : floats_of.f a0 = some (r1, r2)) :
  Calls Try.prog 31 #[.int .i64 a0] w fun e w' => e = .returned (.agg #[.int .i64 r1, .int .i64 r2]) ∧ Below w.heap.size w w' := by
 have hu43 := Try.underlying43
 have HB := As0.mk (Below.refl w.heap.size w)
 have H : (if a0 = 32 then (some (23, 8)) else (if a0 = 64 then (some (52, 11)) else (some (0, 0)))) = some (r1, r2) := h
 clear h
 by_cases c2 : a0 = 32
 ·rw [if_pos c2] at H
  have c2b0 : (a0 == 32) = true := beq_iff_eq.mpr c2
  have c2b1 : (a0 != 32) = false := bne_eq_false_iff_eq.mpr c2
  clear c2
  simp only [Option.some.injEq, Prod.mk.injEq] at H
  obtain ⟨rfl, rfl⟩ := H
  go_enter Try.func31, Try.ntmps31
  go_wp2_with (first | ((with_reducible refine gate_dst (N := 2) rfl ?_); refine box_event ?hg (N := 2) ?hd (cs := #[.int .i64 0, .int .i64 0]) (t := 43) ?hr ?_; (case hd => rfl); (case hg => rfl); (case hr => first | (go_simp; done) | (go_simp; rfl)); intro gb101 hg w3 hbox hb; have n0_ := As0.mk (bst (by repeat (first | (with_reducible first | exact HB.out | apply bal | apply pwB_ | apply bd1) | exact HB.out)) hb); have n1_ := As0.mk (hbox); have n2_ := As0.mk ((by rw [hg]; exact (below_size (by repeat (first | (with_reducible first | exact HB.out | apply bal | apply pwB_ | apply bd1) | exact HB.out))) : w.heap.size ≤ gb101)); have n3_ := As0.mk ((by rw [hg]; exact (below_size (by repeat (first | (with_reducible first | exact HB.out | apply bal | apply pwB_ | apply bd1) | exact HB.out))) : w.heap.size ≤ gb101)); clear HB; have HB := n0_; have BK101 := n1_; have GW101 := n2_; have GE101 := n3_; clear n0_ n1_ n2_ n3_; clear hb hbox hg; have hcz4_0 : w3.cell? ⟨gb101, 0, none⟩ = some (.int .i64 0) := (bce BK101.out 0).trans rfl; have hcz4_1 : w3.cell? ⟨gb101, 1, none⟩ = some (.int .i64 0) := (bce BK101.out 1).trans rfl; have hfz4_0 := bkf BK101.out 0; have hfz4_1 := bkf BK101.out 1))
  refine bodyPost_ret (results_cell_row rfl _ _ gb101 43 #[.int .i64 23, .int .i64 8] (0, 0) _ rfl (by (with_reducible repeat (first | refine bkN ?_ _ | refine bkd ?_ | refine bka ?_ _)); refine blk_put (cs := #[.int .i64 23, .int .i64 0]) ?_ 1 _ rfl; (with_reducible repeat (first | refine bkN ?_ _ | refine bkd ?_ | refine bka ?_ _)); refine blk_put (cs := #[.int .i64 0, .int .i64 0]) ?_ 0 _ rfl; (with_reducible repeat (first | refine bkN ?_ _ | refine bkd ?_ | refine bka ?_ _)); exact BK101.out) Try.underlying43 rfl (by kernel_rfl)) rfl ?_
  exact ⟨by first | rfl | (simp [*] <;> rfl), by repeat (first | (with_reducible first | exact HB.out | apply bal | apply pwB_ | apply bd1 | refine bse ?_ GE101.out) | exact HB.out)⟩
 ·rw [if_neg c2] at H
  have c2b0 : (a0 == 32) = false := beq_eq_false_iff_ne.mpr c2
  have c2b1 : (a0 != 32) = true := bne_iff_ne.mpr c2
  by_cases c5 : a0 = 64
  ·rw [if_pos c5] at H
   have c5b0 : (a0 == 64) = true := beq_iff_eq.mpr c5
   have c5b1 : (a0 != 64) = false := bne_eq_false_iff_eq.mpr c5
   clear c5
   simp only [Option.some.injEq, Prod.mk.injEq] at H
   obtain ⟨rfl, rfl⟩ := H
   go_enter Try.func31, Try.ntmps31
   go_wp2_with (first | ((with_reducible refine gate_dst (N := 2) rfl ?_); refine box_event ?hg (N := 2) ?hd (cs := #[.int .i64 0, .int .i64 0]) (t := 43) ?hr ?_; (case hd => rfl); (case hg => rfl); (case hr => first | (go_simp; done) | (go_simp; rfl)); intro gb101 hg w6 hbox hb; have n0_ := As0.mk (bst (by repeat (first | (with_reducible first | exact HB.out | apply bal | apply pwB_ | apply bd1) | exact HB.out)) hb); have n1_ := As0.mk (hbox); have n2_ := As0.mk ((by rw [hg]; exact (below_size (by repeat (first | (with_reducible first | exact HB.out | apply bal | apply pwB_ | apply bd1) | exact HB.out))) : w.heap.size ≤ gb101)); have n3_ := As0.mk ((by rw [hg]; exact (below_size (by repeat (first | (with_reducible first | exact HB.out | apply bal | apply pwB_ | apply bd1) | exact HB.out))) : w.heap.size ≤ gb101)); clear HB; have HB := n0_; have BK101 := n1_; have GW101 := n2_; have GE101 := n3_; clear n0_ n1_ n2_ n3_; clear hb hbox hg; have hcz7_0 : w6.cell? ⟨gb101, 0, none⟩ = some (.int .i64 0) := (bce BK101.out 0).trans rfl; have hcz7_1 : w6.cell? ⟨gb101, 1, none⟩ = some (.int .i64 0) := (bce BK101.out 1).trans rfl; have hfz7_0 := bkf BK101.out 0; have hfz7_1 := bkf BK101.out 1))
   refine bodyPost_ret (results_cell_row rfl _ _ gb101 43 #[.int .i64 52, .int .i64 11] (0, 0) _ rfl (by (with_reducible repeat (first | refine bkN ?_ _ | refine bkd ?_ | refine bka ?_ _)); refine blk_put (cs := #[.int .i64 52, .int .i64 0]) ?_ 1 _ rfl; (with_reducible repeat (first | refine bkN ?_ _ | refine bkd ?_ | refine bka ?_ _)); refine blk_put (cs := #[.int .i64 0, .int .i64 0]) ?_ 0 _ rfl; (with_reducible repeat (first | refine bkN ?_ _ | refine bkd ?_ | refine bka ?_ _)); exact BK101.out) Try.underlying43 rfl (by kernel_rfl)) rfl ?_
   exact ⟨by first | rfl | (simp [*] <;> rfl), by repeat (first | (with_reducible first | exact HB.out | apply bal | apply pwB_ | apply bd1 | refine bse ?_ GE101.out) | exact HB.out)⟩
  ·rw [if_neg c5] at H
   have c5b0 : (a0 == 64) = false := beq_eq_false_iff_ne.mpr c5
   have c5b1 : (a0 != 64) = true := bne_iff_ne.mpr c5
   simp only [Option.some.injEq, Prod.mk.injEq] at H
   obtain ⟨rfl, rfl⟩ := H
   go_enter Try.func31, Try.ntmps31
   go_wp2_with (first | ((with_reducible refine gate_dst (N := 2) rfl ?_); refine box_event ?hg (N := 2) ?hd (cs := #[.int .i64 0, .int .i64 0]) (t := 43) ?hr ?_; (case hd => rfl); (case hg => rfl); (case hr => first | (go_simp; done) | (go_simp; rfl)); intro gb101 hg w8 hbox hb; have n0_ := As0.mk (bst (by repeat (first | (with_reducible first | exact HB.out | apply bal | apply pwB_ | apply bd1) | exact HB.out)) hb); have n1_ := As0.mk (hbox); have n2_ := As0.mk ((by rw [hg]; exact (below_size (by repeat (first | (with_reducible first | exact HB.out | apply bal | apply pwB_ | apply bd1) | exact HB.out))) : w.heap.size ≤ gb101)); have n3_ := As0.mk ((by rw [hg]; exact (below_size (by repeat (first | (with_reducible first | exact HB.out | apply bal | apply pwB_ | apply bd1) | exact HB.out))) : w.heap.size ≤ gb101)); clear HB; have HB := n0_; have BK101 := n1_; have GW101 := n2_; have GE101 := n3_; clear n0_ n1_ n2_ n3_; clear hb hbox hg; have hcz9_0 : w8.cell? ⟨gb101, 0, none⟩ = some (.int .i64 0) := (bce BK101.out 0).trans rfl; have hcz9_1 : w8.cell? ⟨gb101, 1, none⟩ = some (.int .i64 0) := (bce BK101.out 1).trans rfl; have hfz9_0 := bkf BK101.out 0; have hfz9_1 := bkf BK101.out 1))
   refine bodyPost_ret (results_cell_row rfl _ _ gb101 43 #[.int .i64 0, .int .i64 0] (0, 0) _ rfl (by (with_reducible repeat (first | refine bkN ?_ _ | refine bkd ?_ | refine bka ?_ _)); refine blk_put (cs := #[.int .i64 0, .int .i64 0]) ?_ 1 _ rfl; (with_reducible repeat (first | refine bkN ?_ _ | refine bkd ?_ | refine bka ?_ _)); refine blk_put (cs := #[.int .i64 0, .int .i64 0]) ?_ 0 _ rfl; (with_reducible repeat (first | refine bkN ?_ _ | refine bkd ?_ | refine bka ?_ _)); exact BK101.out) Try.underlying43 rfl (by kernel_rfl)) rfl ?_
   exact ⟨by first | rfl | (simp [*] <;> rfl), by repeat (first | (with_reducible first | exact HB.out | apply bal | apply pwB_ | apply bd1 | refine bse ?_ GE101.out) | exact HB.out)⟩
def ff_none.f (a0_0 : Int) (a0_1 : Int) : Option (Bool) := some (a0_0 == 0 && (a0_1 == 0))
set_option maxHeartbeats 8000000 in
set_option maxRecDepth 100000 in
theorem ff_none.calls (a0_0 : Int) (a0_1 : Int) (r : Bool) (w : World) (h : ff_none.f a0_0 a0_1 = some r) :
  Calls Try.prog 32 #[.agg #[.int .i64 a0_0, .int .i64 a0_1]] w fun e w' => e = .returned (.bool r) ∧ Below w.heap.size w w' := by
 have hu43 := Try.underlying43
 have HB := As0.mk (Below.refl w.heap.size w)
 have H : (some (a0_0 == 0 && (a0_1 == 0))) = some r := h
 clear h
 obtain rfl := Option.some.inj H
 go_enter Try.func32, Try.ntmps32
 go_wp2_with (first | ((with_reducible refine gate_dst (N := 1) rfl ?_); refine box_event ?hg (N := 1) ?hd (cs := #[.int .i64 a0_0, .int .i64 a0_1]) (t := 43) ?hr ?_; (case hd => rfl); (case hg => rfl); (case hr => first | (go_simp; done) | (go_simp; rfl)); intro gb102 hg w2 hbox hb; have n0_ := As0.mk (bst (by repeat (first | (with_reducible first | exact HB.out | apply bal | apply pwB_ | apply bd1) | exact HB.out)) hb); have n1_ := As0.mk (hbox); have n2_ := As0.mk ((by rw [hg]; exact (below_size (by repeat (first | (with_reducible first | exact HB.out | apply bal | apply pwB_ | apply bd1) | exact HB.out))) : w.heap.size ≤ gb102)); have n3_ := As0.mk ((by rw [hg]; exact (below_size (by repeat (first | (with_reducible first | exact HB.out | apply bal | apply pwB_ | apply bd1) | exact HB.out))) : w.heap.size ≤ gb102)); clear HB; have HB := n0_; have BK102 := n1_; have GW102 := n2_; have GE102 := n3_; clear n0_ n1_ n2_ n3_; clear hb hbox hg; have hcz3_0 : w2.cell? ⟨gb102, 0, none⟩ = some (.int .i64 a0_0) := (bce BK102.out 0).trans rfl; have hcz3_1 : w2.cell? ⟨gb102, 1, none⟩ = some (.int .i64 a0_1) := (bce BK102.out 1).trans rfl; have hfz3_0 := bkf BK102.out 0; have hfz3_1 := bkf BK102.out 1))
 go_ret
 exact ⟨by first | rfl | (simp [*] <;> rfl), by repeat (first | (with_reducible first | exact HB.out | apply bal | apply pwB_ | apply bd1 | refine bse ?_ GE102.out) | exact HB.out)⟩
def ff_sign.f (a0_0 : Int) (a0_1 : Int) : Option (Int) := if 0 ≤ (IntKind.u64.wrap (wrap64 (a0_0 + a0_1))) then (some (shl .u64 1 (IntKind.u64.wrap (wrap64 (a0_0 + a0_1))))) else (none)
set_option maxHeartbeats 8000000 in
set_option maxRecDepth 100000 in
theorem ff_sign.calls (a0_0 : Int) (a0_1 : Int) (r : Int) (w : World) (h : ff_sign.f a0_0 a0_1 = some r) :
  Calls Try.prog 43 #[.agg #[.int .i64 a0_0, .int .i64 a0_1]] w fun e w' => e = .returned (.int .u64 r) ∧ Below w.heap.size w w' := by
 have hu43 := Try.underlying43
 have HB := As0.mk (Below.refl w.heap.size w)
 have H : (if 0 ≤ (IntKind.u64.wrap (wrap64 (a0_0 + a0_1))) then (some (shl .u64 1 (IntKind.u64.wrap (wrap64 (a0_0 + a0_1))))) else (none)) = some r := h
 clear h
 obtain ⟨ji2, hji2⟩ : ∃ j_ : Int, (IntKind.u64.wrap (wrap64 (a0_0 + a0_1))) = j_ := ⟨_, rfl⟩
 replace H : (if 0 ≤ (ji2) then (some (shl .u64 1 (ji2))) else (none)) = some r := by first | (rw [hji2] at H; exact H) | (simp only [hji2] at H ⊢; exact H)
 by_cases c3 : 0 ≤ (ji2)
 ·rw [if_pos c3] at H
  have c3b0 := eq_true c3
  have c3b1 : decide (0 ≤ (ji2)) = true := decide_eq_true c3
  clear c3
  obtain ⟨ji4, hji4⟩ : ∃ j_ : Int, (shl .u64 1 (ji2)) = j_ := ⟨_, rfl⟩
  replace H : (some ji4) = some r := by first | (rw [hji4] at H; exact H) | (simp only [hji4] at H ⊢; exact H)
  have hji4_ : (IntKind.u64.wrap (1 * 2 ^ min (ji2).toNat 64)) = ji4 := hji4
  have hji4z : (ji2) ≤ 64 → (IntKind.u64.wrap (1 * 2 ^ (ji2).toNat)) = ji4 := shl_small hji4
  have hji4u : (IntKind.u64.wrap (2 ^ min (ji2).toNat 64)) = ji4 := by have h_ := hji4_; rw [Int.one_mul] at h_; exact h_
  have hji4v : (ji2) ≤ 64 → (IntKind.u64.wrap (2 ^ (ji2).toNat)) = ji4 := fun hle_ => by have h_ := hji4z hle_; rw [Int.one_mul] at h_; exact h_
  obtain rfl := Option.some.inj H
  go_enter Try.func43, Try.ntmps43
  go_wp2_with (first | ((with_reducible refine gate_dst (N := 1) rfl ?_); refine box_event ?hg (N := 1) ?hd (cs := #[.int .i64 a0_0, .int .i64 a0_1]) (t := 43) ?hr ?_; (case hd => rfl); (case hg => rfl); (case hr => first | (go_simp; done) | (go_simp; rfl)); intro gb103 hg w5 hbox hb; have n0_ := As0.mk (bst (by repeat (first | (with_reducible first | exact HB.out | apply bal | apply pwB_ | apply bd1) | exact HB.out)) hb); have n1_ := As0.mk (hbox); have n2_ := As0.mk ((by rw [hg]; exact (below_size (by repeat (first | (with_reducible first | exact HB.out | apply bal | apply pwB_ | apply bd1) | exact HB.out))) : w.heap.size ≤ gb103)); have n3_ := As0.mk ((by rw [hg]; exact (below_size (by repeat (first | (with_reducible first | exact HB.out | apply bal | apply pwB_ | apply bd1) | exact HB.out))) : w.heap.size ≤ gb103)); clear HB; have HB := n0_; have BK103 := n1_; have GW103 := n2_; have GE103 := n3_; clear n0_ n1_ n2_ n3_; clear hb hbox hg; have hcz6_0 : w5.cell? ⟨gb103, 0, none⟩ = some (.int .i64 a0_0) := (bce BK103.out 0).trans rfl; have hcz6_1 : w5.cell? ⟨gb103, 1, none⟩ = some (.int .i64 a0_1) := (bce BK103.out 1).trans rfl; have hfz6_0 := bkf BK103.out 0; have hfz6_1 := bkf BK103.out 1))
  go_ret
  exact ⟨by first | rfl | (simp only [← hji2, ← hji4]; first | rfl) | (simp [*] <;> rfl), by repeat (first | (with_reducible first | exact HB.out | apply bal | apply pwB_ | apply bd1 | refine bse ?_ GE103.out) | exact HB.out)⟩
 ·rw [if_neg c3] at H
  exact absurd H (by simp)
def ff_signed.f (a0_0 : Int) (a0_1 : Int) (a1 : Bool) (a2 : Int) : Option (Int) := if a1 = true then ((ff_sign.f a0_0 a0_1).bind fun t105 => (some (Go.bits .or .u64 a2 t105))) else (some a2)
set_option maxHeartbeats 8000000 in
set_option maxRecDepth 100000 in
theorem ff_signed.calls (a0_0 : Int) (a0_1 : Int) (a1 : Bool) (a2 : Int) (r : Int) (w : World) (h : ff_signed.f a0_0 a0_1 a1 a2 = some r) :
  Calls Try.prog 38 #[.agg #[.int .i64 a0_0, .int .i64 a0_1], .bool a1, .int .u64 a2] w fun e w' => e = .returned (.int .u64 r) ∧ Below w.heap.size w w' := by
 have hu43 := Try.underlying43
 have HB := As0.mk (Below.refl w.heap.size w)
 have H : (if a1 = true then ((ff_sign.f a0_0 a0_1).bind fun t105 => (some (Go.bits .or .u64 a2 t105))) else (some a2)) = some r := h
 clear h
 by_cases c4 : a1 = true
 ·subst c4
  have H1 : ((ff_sign.f a0_0 a0_1).bind fun t105 => (some (Go.bits .or .u64 a2 t105))) = some r := by rw [if_pos rfl] at H; exact H
  clear H
  have H := H1
  clear H1
  replace H := zob H
  obtain ⟨t105, A50, H⟩ := H
  replace H : (some (Go.bits .or .u64 a2 t105)) = some r := H
  have A5 := As0.mk A50
  clear A50
  obtain rfl := Option.some.inj H
  go_enter Try.func38, Try.ntmps38
  go_wp2_with (first | ((with_reducible refine gate_dst (N := 3) rfl ?_); refine box_event ?hg (N := 3) ?hd (cs := #[.int .i64 a0_0, .int .i64 a0_1]) (t := 43) ?hr ?_; (case hd => rfl); (case hg => rfl); (case hr => first | (go_simp; done) | (go_simp; rfl)); intro gb104 hg w6 hbox hb; have n0_ := As0.mk (bst (by repeat (first | (with_reducible first | exact HB.out | apply bal | apply pwB_ | apply bd1) | exact HB.out)) hb); have n1_ := As0.mk (hbox); have n2_ := As0.mk ((by rw [hg]; exact (below_size (by repeat (first | (with_reducible first | exact HB.out | apply bal | apply pwB_ | apply bd1) | exact HB.out))) : w.heap.size ≤ gb104)); have n3_ := As0.mk ((by rw [hg]; exact (below_size (by repeat (first | (with_reducible first | exact HB.out | apply bal | apply pwB_ | apply bd1) | exact HB.out))) : w.heap.size ≤ gb104)); clear HB; have HB := n0_; have BK104 := n1_; have GW104 := n2_; have GE104 := n3_; clear n0_ n1_ n2_ n3_; clear hb hbox hg; have hcz7_0 : w6.cell? ⟨gb104, 0, none⟩ = some (.int .i64 a0_0) := (bce BK104.out 0).trans rfl; have hcz7_1 : w6.cell? ⟨gb104, 1, none⟩ = some (.int .i64 a0_1) := (bce BK104.out 1).trans rfl; have hfz7_0 := bkf BK104.out 0; have hfz7_1 := bkf BK104.out 1) | ((with_reducible refine gcl (f := 43) rfl ?_); refine goesL_ (some 10) rfl rfl Try.func43 (by kernel_rfl) rfl #[.agg #[.int .i64 a0_0, .int .i64 a0_1]] rfl (by (try simp only [zmt, zmc, zmn]); first | done | rfl) ?_; (with_reducible refine (ff_sign.calls a0_0 a0_1 t105 _ A5.out).mono ?_); rintro e w8 ⟨rfl, hb⟩; refine ⟨_, rfl, ?_⟩; have n0_ := As0.mk (bkb (g := gb104) (o := .cells #[.int .i64 a0_0, .int .i64 a0_1] 43 (0, 0)) (by (with_reducible repeat (first | refine bkN ?_ _ | refine bkd ?_ | refine bka ?_ _)); exact BK104.out) hb); have n1_ := As0.mk (bst (by repeat (first | (with_reducible first | exact HB.out | apply bal | apply pwB_ | apply bd1 | refine bse ?_ GE104.out) | exact HB.out)) hb); clear BK104; clear HB; have BK104 := n0_; have HB := n1_; clear n0_ n1_; (try clear hb); (try clear hb2); (try clear hk); (try clear hi)))
  go_ret
  exact ⟨by first | rfl | (simp [*] <;> rfl), by repeat (first | (with_reducible first | exact HB.out | apply bal | apply pwB_ | apply bd1 | refine bse ?_ GE104.out) | exact HB.out)⟩
 ·replace c4 := Bool.eq_false_iff.mpr c4
  subst c4
  have H1 : (some a2) = some r := by rw [if_neg (show ¬ (false = true) by decide)] at H; exact H
  clear H
  have H := H1
  clear H1
  obtain rfl := Option.some.inj H
  go_enter Try.func38, Try.ntmps38
  go_wp2_with (first | ((with_reducible refine gate_dst (N := 3) rfl ?_); refine box_event ?hg (N := 3) ?hd (cs := #[.int .i64 a0_0, .int .i64 a0_1]) (t := 43) ?hr ?_; (case hd => rfl); (case hg => rfl); (case hr => first | (go_simp; done) | (go_simp; rfl)); intro gb104 hg w9 hbox hb; have n0_ := As0.mk (bst (by repeat (first | (with_reducible first | exact HB.out | apply bal | apply pwB_ | apply bd1) | exact HB.out)) hb); have n1_ := As0.mk (hbox); have n2_ := As0.mk ((by rw [hg]; exact (below_size (by repeat (first | (with_reducible first | exact HB.out | apply bal | apply pwB_ | apply bd1) | exact HB.out))) : w.heap.size ≤ gb104)); have n3_ := As0.mk ((by rw [hg]; exact (below_size (by repeat (first | (with_reducible first | exact HB.out | apply bal | apply pwB_ | apply bd1) | exact HB.out))) : w.heap.size ≤ gb104)); clear HB; have HB := n0_; have BK104 := n1_; have GW104 := n2_; have GE104 := n3_; clear n0_ n1_ n2_ n3_; clear hb hbox hg))
  go_ret
  exact ⟨by first | rfl | (simp [*] <;> rfl), by repeat (first | (with_reducible first | exact HB.out | apply bal | apply pwB_ | apply bd1 | refine bse ?_ GE104.out) | exact HB.out)⟩
def ff_infinity.f (a0_0 : Int) (a0_1 : Int) : Option (Int) := if 0 ≤ (IntKind.u64.wrap (a0_1)) then (if 0 ≤ (IntKind.u64.wrap (a0_0)) then (some (shl .u64 (IntKind.u64.wrap ((shl .u64 1 (IntKind.u64.wrap (a0_1))) - 1)) (IntKind.u64.wrap (a0_0)))) else (none)) else (none)
set_option maxHeartbeats 8000000 in
set_option maxRecDepth 100000 in
theorem ff_infinity.calls (a0_0 : Int) (a0_1 : Int) (r : Int) (w : World) (h : ff_infinity.f a0_0 a0_1 = some r) :
  Calls Try.prog 50 #[.agg #[.int .i64 a0_0, .int .i64 a0_1]] w fun e w' => e = .returned (.int .u64 r) ∧ Below w.heap.size w w' := by
 have hu43 := Try.underlying43
 have HB := As0.mk (Below.refl w.heap.size w)
 have H : (if 0 ≤ (IntKind.u64.wrap (a0_1)) then (if 0 ≤ (IntKind.u64.wrap (a0_0)) then (some (shl .u64 (IntKind.u64.wrap ((shl .u64 1 (IntKind.u64.wrap (a0_1))) - 1)) (IntKind.u64.wrap (a0_0)))) else (none)) else (none)) = some r := h
 clear h
 obtain ⟨ji2, hji2⟩ : ∃ j_ : Int, (IntKind.u64.wrap (a0_1)) = j_ := ⟨_, rfl⟩
 replace H : (if 0 ≤ (ji2) then (if 0 ≤ (IntKind.u64.wrap (a0_0)) then (some (shl .u64 (IntKind.u64.wrap ((shl .u64 1 (ji2)) - 1)) (IntKind.u64.wrap (a0_0)))) else (none)) else (none)) = some r := by first | (rw [hji2] at H; exact H) | (simp only [hji2] at H ⊢; exact H)
 by_cases c3 : 0 ≤ (ji2)
 ·rw [if_pos c3] at H
  have c3b0 := eq_true c3
  have c3b1 : decide (0 ≤ (ji2)) = true := decide_eq_true c3
  clear c3
  obtain ⟨ji4, hji4⟩ : ∃ j_ : Int, (shl .u64 1 (ji2)) = j_ := ⟨_, rfl⟩
  replace H : (if 0 ≤ (IntKind.u64.wrap (a0_0)) then (some (shl .u64 (IntKind.u64.wrap ((ji4) - 1)) (IntKind.u64.wrap (a0_0)))) else (none)) = some r := by first | (rw [hji4] at H; exact H) | (simp only [hji4] at H ⊢; exact H)
  have hji4_ : (IntKind.u64.wrap (1 * 2 ^ min (ji2).toNat 64)) = ji4 := hji4
  have hji4z : (ji2) ≤ 64 → (IntKind.u64.wrap (1 * 2 ^ (ji2).toNat)) = ji4 := shl_small hji4
  have hji4u : (IntKind.u64.wrap (2 ^ min (ji2).toNat 64)) = ji4 := by have h_ := hji4_; rw [Int.one_mul] at h_; exact h_
  have hji4v : (ji2) ≤ 64 → (IntKind.u64.wrap (2 ^ (ji2).toNat)) = ji4 := fun hle_ => by have h_ := hji4z hle_; rw [Int.one_mul] at h_; exact h_
  obtain ⟨ji5, hji5⟩ : ∃ j_ : Int, (IntKind.u64.wrap (a0_0)) = j_ := ⟨_, rfl⟩
  replace H : (if 0 ≤ (ji5) then (some (shl .u64 (IntKind.u64.wrap ((ji4) - 1)) (ji5))) else (none)) = some r := by first | (rw [hji5] at H; exact H) | (simp only [hji5] at H ⊢; exact H)
  by_cases c6 : 0 ≤ (ji5)
  ·rw [if_pos c6] at H
   have c6b0 := eq_true c6
   have c6b1 : decide (0 ≤ (ji5)) = true := decide_eq_true c6
   clear c6
   obtain ⟨ji7, hji7⟩ : ∃ j_ : Int, (shl .u64 (IntKind.u64.wrap ((ji4) - 1)) (ji5)) = j_ := ⟨_, rfl⟩
   replace H : (some ji7) = some r := by first | (rw [hji7] at H; exact H) | (simp only [hji7] at H ⊢; exact H)
   have hji7_ : (IntKind.u64.wrap ((IntKind.u64.wrap ((ji4) - 1)) * 2 ^ min (ji5).toNat 64)) = ji7 := hji7
   have hji7z : (ji5) ≤ 64 → (IntKind.u64.wrap ((IntKind.u64.wrap ((ji4) - 1)) * 2 ^ (ji5).toNat)) = ji7 := shl_small hji7
   obtain rfl := Option.some.inj H
   go_enter Try.func50, Try.ntmps50
   go_wp2_with (first | ((with_reducible refine gate_dst (N := 1) rfl ?_); refine box_event ?hg (N := 1) ?hd (cs := #[.int .i64 a0_0, .int .i64 a0_1]) (t := 43) ?hr ?_; (case hd => rfl); (case hg => rfl); (case hr => first | (go_simp; done) | (go_simp; rfl)); intro gb106 hg w8 hbox hb; have n0_ := As0.mk (bst (by repeat (first | (with_reducible first | exact HB.out | apply bal | apply pwB_ | apply bd1) | exact HB.out)) hb); have n1_ := As0.mk (hbox); have n2_ := As0.mk ((by rw [hg]; exact (below_size (by repeat (first | (with_reducible first | exact HB.out | apply bal | apply pwB_ | apply bd1) | exact HB.out))) : w.heap.size ≤ gb106)); have n3_ := As0.mk ((by rw [hg]; exact (below_size (by repeat (first | (with_reducible first | exact HB.out | apply bal | apply pwB_ | apply bd1) | exact HB.out))) : w.heap.size ≤ gb106)); clear HB; have HB := n0_; have BK106 := n1_; have GW106 := n2_; have GE106 := n3_; clear n0_ n1_ n2_ n3_; clear hb hbox hg; have hcz9_0 : w8.cell? ⟨gb106, 0, none⟩ = some (.int .i64 a0_0) := (bce BK106.out 0).trans rfl; have hcz9_1 : w8.cell? ⟨gb106, 1, none⟩ = some (.int .i64 a0_1) := (bce BK106.out 1).trans rfl; have hfz9_0 := bkf BK106.out 0; have hfz9_1 := bkf BK106.out 1))
   go_ret
   exact ⟨by first | rfl | (simp only [← hji2, ← hji4, ← hji5, ← hji7]; first | rfl) | (simp [*] <;> rfl), by repeat (first | (with_reducible first | exact HB.out | apply bal | apply pwB_ | apply bd1 | refine bse ?_ GE106.out) | exact HB.out)⟩
  ·rw [if_neg c6] at H
   exact absurd H (by simp)
 ·rw [if_neg c3] at H
  exact absurd H (by simp)
-- given: function 63 (bits_Len64)
def ff_least.f (a0_0 : Int) (a0_1 : Int) : Option (Int) := if 0 ≤ (IntKind.u64.wrap (wrap64 (a0_1 - 1))) then (some (wrap64 ((wrap64 (2 - (shl .i64 1 (IntKind.u64.wrap (wrap64 (a0_1 - 1)))))) - a0_0))) else (none)
set_option maxHeartbeats 8000000 in
set_option maxRecDepth 100000 in
theorem ff_least.calls (a0_0 : Int) (a0_1 : Int) (r : Int) (w : World) (h : ff_least.f a0_0 a0_1 = some r) :
  Calls Try.prog 64 #[.agg #[.int .i64 a0_0, .int .i64 a0_1]] w fun e w' => e = .returned (.int .i64 r) ∧ Below w.heap.size w w' := by
 have hu43 := Try.underlying43
 have HB := As0.mk (Below.refl w.heap.size w)
 have H : (if 0 ≤ (IntKind.u64.wrap (wrap64 (a0_1 - 1))) then (some (wrap64 ((wrap64 (2 - (shl .i64 1 (IntKind.u64.wrap (wrap64 (a0_1 - 1)))))) - a0_0))) else (none)) = some r := h
 clear h
 obtain ⟨ji2, hji2⟩ : ∃ j_ : Int, (IntKind.u64.wrap (wrap64 (a0_1 - 1))) = j_ := ⟨_, rfl⟩
 replace H : (if 0 ≤ (ji2) then (some (wrap64 ((wrap64 (2 - (shl .i64 1 (ji2)))) - a0_0))) else (none)) = some r := by first | (rw [hji2] at H; exact H) | (simp only [hji2] at H ⊢; exact H)
 by_cases c3 : 0 ≤ (ji2)
 ·rw [if_pos c3] at H
  have c3b0 := eq_true c3
  have c3b1 : decide (0 ≤ (ji2)) = true := decide_eq_true c3
  clear c3
  obtain ⟨ji4, hji4⟩ : ∃ j_ : Int, (shl .i64 1 (ji2)) = j_ := ⟨_, rfl⟩
  replace H : (some (wrap64 ((wrap64 (2 - (ji4))) - a0_0))) = some r := by first | (rw [hji4] at H; exact H) | (simp only [hji4] at H ⊢; exact H)
  have hji4_ : (IntKind.i64.wrap (1 * 2 ^ min (ji2).toNat 64)) = ji4 := hji4
  have hji4z : (ji2) ≤ 64 → (IntKind.i64.wrap (1 * 2 ^ (ji2).toNat)) = ji4 := shl_small hji4
  have hji4u : (IntKind.i64.wrap (2 ^ min (ji2).toNat 64)) = ji4 := by have h_ := hji4_; rw [Int.one_mul] at h_; exact h_
  have hji4v : (ji2) ≤ 64 → (IntKind.i64.wrap (2 ^ (ji2).toNat)) = ji4 := fun hle_ => by have h_ := hji4z hle_; rw [Int.one_mul] at h_; exact h_
  have hji4y : (wrap64 (1 * 2 ^ min (ji2).toNat 64)) = ji4 := (i64_w _).symm.trans hji4_
  have hji4x : (ji2) ≤ 64 → (wrap64 (1 * 2 ^ (ji2).toNat)) = ji4 := fun h_ => (i64_w _).symm.trans (hji4z h_)
  obtain rfl := Option.some.inj H
  go_enter Try.func64, Try.ntmps64
  go_wp2_with (first | ((with_reducible refine gate_dst (N := 1) rfl ?_); refine box_event ?hg (N := 1) ?hd (cs := #[.int .i64 a0_0, .int .i64 a0_1]) (t := 43) ?hr ?_; (case hd => rfl); (case hg => rfl); (case hr => first | (go_simp; done) | (go_simp; rfl)); intro gb107 hg w5 hbox hb; have n0_ := As0.mk (bst (by repeat (first | (with_reducible first | exact HB.out | apply bal | apply pwB_ | apply bd1) | exact HB.out)) hb); have n1_ := As0.mk (hbox); have n2_ := As0.mk ((by rw [hg]; exact (below_size (by repeat (first | (with_reducible first | exact HB.out | apply bal | apply pwB_ | apply bd1) | exact HB.out))) : w.heap.size ≤ gb107)); have n3_ := As0.mk ((by rw [hg]; exact (below_size (by repeat (first | (with_reducible first | exact HB.out | apply bal | apply pwB_ | apply bd1) | exact HB.out))) : w.heap.size ≤ gb107)); clear HB; have HB := n0_; have BK107 := n1_; have GW107 := n2_; have GE107 := n3_; clear n0_ n1_ n2_ n3_; clear hb hbox hg; have hcz6_0 : w5.cell? ⟨gb107, 0, none⟩ = some (.int .i64 a0_0) := (bce BK107.out 0).trans rfl; have hcz6_1 : w5.cell? ⟨gb107, 1, none⟩ = some (.int .i64 a0_1) := (bce BK107.out 1).trans rfl; have hfz6_0 := bkf BK107.out 0; have hfz6_1 := bkf BK107.out 1))
  go_ret
  exact ⟨by first | rfl | (simp only [← hji2, ← hji4]; first | rfl) | (simp [*] <;> rfl), by repeat (first | (with_reducible first | exact HB.out | apply bal | apply pwB_ | apply bd1 | refine bse ?_ GE107.out) | exact HB.out)⟩
 ·rw [if_neg c3] at H
  exact absurd H (by simp)
end Go.Proofs.Ytjfmomogidgbpaa.PFl
namespace Go.Proofs.Ytjfmomogidgbpaa.PFl
open Go.RowKit Go.Proofs.YtjfmomogidgbpaaW.PrintWords Go.Proofs.YtjfmomogidgbpaaW.PrintLast Go.Proofs.YtjfmomogidgbpaaW.PrintMore
attribute [local go_sem] max2_int min2_int max_two min_two max_three min_three max_four min_four
set_option linter.unusedVariables false
set_option linter.unusedSimpArgs false
mutual
def ff_round.j0 : Nat → Bool → Int → Int → Int → Int → Int → Option (Int)
 | 0, _, _, _, _, _, _ => none
 | k + 1, x1, x2, x3, x11, x109000, x109001 => if 0 ≤ (IntKind.u64.wrap (x109000)) then (if x2 ≥ (shl .u64 1 (IntKind.u64.wrap (x109000))) then ((ff_least.f x109000 x109001).bind fun t112 => (ff_round.j1 k x1 x2 (wrap64 ((wrap64 (x3 + x11)) - t112)) x109000 x109001)) else (ff_round.j1 k x1 x2 0 x109000 x109001)) else (none)
def ff_round.j1 : Nat → Bool → Int → Int → Int → Int → Option (Int)
 | 0, _, _, _, _, _ => none
 | k + 1, x1, x2, x13, x109000, x109001 => if 0 ≤ (IntKind.u64.wrap (x109001)) then (if x13 ≥ (shl .i64 1 (IntKind.u64.wrap (x109001))) then ((ff_infinity.f x109000 x109001).bind fun t113 => ((ff_signed.f x109000 x109001 x1 t113).bind fun t114 => (some t114))) else (if 0 ≤ (IntKind.u64.wrap (x109000)) then ((ff_infinity.f x109000 x109001).bind fun t115 => ((ff_signed.f x109000 x109001 x1 (mn (IntKind.u64.wrap ((shl .u64 (IntKind.u64.wrap (x13)) (IntKind.u64.wrap (x109000))) + x2)) t115)).bind fun t116 => (some t116))) else (none))) else (none)
end
def ff_round.f (k : Nat) (a0_0 : Int) (a0_1 : Int) (a1 : Bool) (a2 : Int) (a3 : Int) (a4 : Bool) : Option (Int) := if a2 = 0 then ((ff_signed.f a0_0 a0_1 a1 0).bind fun t109 => (some t109)) else ((bits_Len64.f a2).bind fun t110 => ((ff_least.f a0_0 a0_1).bind fun t111 => (if (wrap64 ((mx (wrap64 ((wrap64 ((wrap64 (t110 + (mn (mx a3 (-5000)) 5000))) - 1)) - a0_0)) t111) - (mn (mx a3 (-5000)) 5000))) ≤ 0 then (if 0 ≤ (IntKind.u64.wrap (wrap64 (-(wrap64 ((mx (wrap64 ((wrap64 ((wrap64 (t110 + (mn (mx a3 (-5000)) 5000))) - 1)) - a0_0)) t111) - (mn (mx a3 (-5000)) 5000)))))) then (ff_round.j0 k a1 (shl .u64 a2 (IntKind.u64.wrap (wrap64 (-(wrap64 ((mx (wrap64 ((wrap64 ((wrap64 (t110 + (mn (mx a3 (-5000)) 5000))) - 1)) - a0_0)) t111) - (mn (mx a3 (-5000)) 5000))))))) (mn (mx a3 (-5000)) 5000) (wrap64 ((mx (wrap64 ((wrap64 ((wrap64 (t110 + (mn (mx a3 (-5000)) 5000))) - 1)) - a0_0)) t111) - (mn (mx a3 (-5000)) 5000))) a0_0 a0_1) else (none)) else (if (wrap64 ((mx (wrap64 ((wrap64 ((wrap64 (t110 + (mn (mx a3 (-5000)) 5000))) - 1)) - a0_0)) t111) - (mn (mx a3 (-5000)) 5000))) > 64 then (ff_round.j0 k a1 0 (mn (mx a3 (-5000)) 5000) (wrap64 ((mx (wrap64 ((wrap64 ((wrap64 (t110 + (mn (mx a3 (-5000)) 5000))) - 1)) - a0_0)) t111) - (mn (mx a3 (-5000)) 5000))) a0_0 a0_1) else (if 0 ≤ (IntKind.u64.wrap (wrap64 (64 - (wrap64 ((mx (wrap64 ((wrap64 ((wrap64 (t110 + (mn (mx a3 (-5000)) 5000))) - 1)) - a0_0)) t111) - (mn (mx a3 (-5000)) 5000)))))) then (if 0 ≤ (IntKind.u64.wrap (wrap64 ((wrap64 ((mx (wrap64 ((wrap64 ((wrap64 (t110 + (mn (mx a3 (-5000)) 5000))) - 1)) - a0_0)) t111) - (mn (mx a3 (-5000)) 5000))) - 1))) then (if (shl .u64 a2 (IntKind.u64.wrap (wrap64 (64 - (wrap64 ((mx (wrap64 ((wrap64 ((wrap64 (t110 + (mn (mx a3 (-5000)) 5000))) - 1)) - a0_0)) t111) - (mn (mx a3 (-5000)) 5000))))))) > 9223372036854775808 then (ff_round.j0 k a1 (IntKind.u64.wrap ((shr .u64 (a2 / 2) (IntKind.u64.wrap (wrap64 ((wrap64 ((mx (wrap64 ((wrap64 ((wrap64 (t110 + (mn (mx a3 (-5000)) 5000))) - 1)) - a0_0)) t111) - (mn (mx a3 (-5000)) 5000))) - 1)))) + 1)) (mn (mx a3 (-5000)) 5000) (wrap64 ((mx (wrap64 ((wrap64 ((wrap64 (t110 + (mn (mx a3 (-5000)) 5000))) - 1)) - a0_0)) t111) - (mn (mx a3 (-5000)) 5000))) a0_0 a0_1) else (if (shl .u64 a2 (IntKind.u64.wrap (wrap64 (64 - (wrap64 ((mx (wrap64 ((wrap64 ((wrap64 (t110 + (mn (mx a3 (-5000)) 5000))) - 1)) - a0_0)) t111) - (mn (mx a3 (-5000)) 5000))))))) = 9223372036854775808 then (if a4 = true then (ff_round.j0 k a1 (IntKind.u64.wrap ((shr .u64 (a2 / 2) (IntKind.u64.wrap (wrap64 ((wrap64 ((mx (wrap64 ((wrap64 ((wrap64 (t110 + (mn (mx a3 (-5000)) 5000))) - 1)) - a0_0)) t111) - (mn (mx a3 (-5000)) 5000))) - 1)))) + 1)) (mn (mx a3 (-5000)) 5000) (wrap64 ((mx (wrap64 ((wrap64 ((wrap64 (t110 + (mn (mx a3 (-5000)) 5000))) - 1)) - a0_0)) t111) - (mn (mx a3 (-5000)) 5000))) a0_0 a0_1) else (if (Go.bits .and .u64 (shr .u64 (a2 / 2) (IntKind.u64.wrap (wrap64 ((wrap64 ((mx (wrap64 ((wrap64 ((wrap64 (t110 + (mn (mx a3 (-5000)) 5000))) - 1)) - a0_0)) t111) - (mn (mx a3 (-5000)) 5000))) - 1)))) 1) = 1 then (ff_round.j0 k a1 (IntKind.u64.wrap ((shr .u64 (a2 / 2) (IntKind.u64.wrap (wrap64 ((wrap64 ((mx (wrap64 ((wrap64 ((wrap64 (t110 + (mn (mx a3 (-5000)) 5000))) - 1)) - a0_0)) t111) - (mn (mx a3 (-5000)) 5000))) - 1)))) + 1)) (mn (mx a3 (-5000)) 5000) (wrap64 ((mx (wrap64 ((wrap64 ((wrap64 (t110 + (mn (mx a3 (-5000)) 5000))) - 1)) - a0_0)) t111) - (mn (mx a3 (-5000)) 5000))) a0_0 a0_1) else (ff_round.j0 k a1 (shr .u64 (a2 / 2) (IntKind.u64.wrap (wrap64 ((wrap64 ((mx (wrap64 ((wrap64 ((wrap64 (t110 + (mn (mx a3 (-5000)) 5000))) - 1)) - a0_0)) t111) - (mn (mx a3 (-5000)) 5000))) - 1)))) (mn (mx a3 (-5000)) 5000) (wrap64 ((mx (wrap64 ((wrap64 ((wrap64 (t110 + (mn (mx a3 (-5000)) 5000))) - 1)) - a0_0)) t111) - (mn (mx a3 (-5000)) 5000))) a0_0 a0_1))) else (ff_round.j0 k a1 (shr .u64 (a2 / 2) (IntKind.u64.wrap (wrap64 ((wrap64 ((mx (wrap64 ((wrap64 ((wrap64 (t110 + (mn (mx a3 (-5000)) 5000))) - 1)) - a0_0)) t111) - (mn (mx a3 (-5000)) 5000))) - 1)))) (mn (mx a3 (-5000)) 5000) (wrap64 ((mx (wrap64 ((wrap64 ((wrap64 (t110 + (mn (mx a3 (-5000)) 5000))) - 1)) - a0_0)) t111) - (mn (mx a3 (-5000)) 5000))) a0_0 a0_1))) else (none)) else (none))))))
theorem ff_round.mono_l : ∀ k, (∀ y0 y1 y2 y3 y4 y5, LeO (ff_round.j0 k y0 y1 y2 y3 y4 y5) (ff_round.j0 (k + 1) y0 y1 y2 y3 y4 y5)) ∧ (∀ y0 y1 y2 y3 y4, LeO (ff_round.j1 k y0 y1 y2 y3 y4) (ff_round.j1 (k + 1) y0 y1 y2 y3 y4)) := by
 intro k
 induction k with
 | zero => exact ⟨fun _ _ _ _ _ _ r h => by simp [ff_round.j0] at h, fun _ _ _ _ _ r h => by simp [ff_round.j1] at h⟩
 | succ k ih =>
  obtain ⟨ih0, ih1⟩ := ih
  refine ⟨?_, ?_⟩
  ·intro y0 y1 y2 y3 y4 y5
   unfold ff_round.j0
   repeat' first
   | (with_reducible exact ih0 _ _ _ _ _ _)
   | (with_reducible exact ih1 _ _ _ _ _)
   | (with_reducible exact LeO.refl _)
   | (with_reducible exact LeO.none _)
   | (with_reducible refine LeO.ite ?_ ?_)
   | (with_reducible refine LeO.bind ?_ (fun _ => ?_))
   | exact ih0 _ _ _ _ _ _
   | exact ih1 _ _ _ _ _
   | exact LeO.none _
   | refine LeO.ite ?_ ?_
   | refine LeO.bind ?_ (fun _ => ?_)
  ·intro y0 y1 y2 y3 y4
   unfold ff_round.j1
   repeat' first
   | (with_reducible exact ih0 _ _ _ _ _ _)
   | (with_reducible exact ih1 _ _ _ _ _)
   | (with_reducible exact LeO.refl _)
   | (with_reducible exact LeO.none _)
   | (with_reducible refine LeO.ite ?_ ?_)
   | (with_reducible refine LeO.bind ?_ (fun _ => ?_))
   | exact ih0 _ _ _ _ _ _
   | exact ih1 _ _ _ _ _
   | exact LeO.none _
   | refine LeO.ite ?_ ?_
   | refine LeO.bind ?_ (fun _ => ?_)
theorem ff_round.mono : ∀ a0 a1 a2 a3 a4 a5 k, LeO (ff_round.f k a0 a1 a2 a3 a4 a5) (ff_round.f (k + 1) a0 a1 a2 a3 a4 a5) := by
 intro a0 a1 a2 a3 a4 a5 k
 obtain ⟨ih0, ih1⟩ := ff_round.mono_l k
 unfold ff_round.f
 repeat' first
   | (with_reducible exact ih0 _ _ _ _ _ _)
   | (with_reducible exact ih1 _ _ _ _ _)
   | (with_reducible exact LeO.refl _)
   | (with_reducible exact LeO.none _)
   | (with_reducible refine LeO.ite ?_ ?_)
   | (with_reducible refine LeO.bind ?_ (fun _ => ?_))
   | exact ih0 _ _ _ _ _ _
   | exact ih1 _ _ _ _ _
   | exact LeO.none _
   | refine LeO.ite ?_ ?_
   | refine LeO.bind ?_ (fun _ => ?_)
def ff_round.T4 : Bool × List (List Nat × List Nat) := (true, [([], []), ([0], [0]), ([], []), ([1, 2], [1, 2]), ([3], [3]), ([], []), ([5], [5]), ([4, 6], [4, 6]), ([], []), ([8, 1], [8]), ([7, 9], [7, 9]), ([], []), ([10, 11], [10, 11]), ([12, 9, 0, 1, 2, 3, 4, 5, 6, 7, 8, 9, 10, 11, 12], [12])])
def ff_round.B4 : List Nat := [0, 1, 0, 7, 15, 0, 32, 127, 0, 259, 1023, 0, 4095, 8191]
theorem ff_round.tab4 : rtab .any (opsOf Try.f33 4) = ff_round.T4 := by kernel_rfl
theorem ff_round.bits4 : waitsOk ff_round.T4.2 ff_round.B4 = true := by kernel_rfl
def ff_round.T18 : Bool × List (List Nat × List Nat) := (true, [([], []), ([], []), ([], []), ([2], [2]), ([], []), ([4], [4]), ([5], [5]), ([3, 6], [3, 6]), ([], []), ([7, 8], [7, 8]), ([], []), ([10], [10]), ([9, 11], [9, 11]), ([0, 1, 12, 11], [0, 1, 12]), ([13, 13, 0, 1, 2, 3, 4, 5, 6, 7, 8, 9, 10, 11, 12, 13], [13])])
def ff_round.B18 : List Nat := [0, 0, 0, 4, 0, 16, 48, 124, 0, 508, 0, 1024, 4092, 8191, 16383]
theorem ff_round.tab18 : rtab .any (opsOf Try.f33 18) = ff_round.T18 := by kernel_rfl
theorem ff_round.bits18 : waitsOk ff_round.T18.2 ff_round.B18 = true := by kernel_rfl
set_option maxHeartbeats 8000000 in
set_option maxRecDepth 100000 in
theorem ff_round.calls (k : Nat) (a0_0 : Int) (a0_1 : Int) (a1 : Bool) (a2 : Int) (a3 : Int) (a4 : Bool) (r : Int) (w : World) (h : ff_round.f k a0_0 a0_1 a1 a2 a3 a4 = some r) :
  Calls Try.prog 33 #[.agg #[.int .i64 a0_0, .int .i64 a0_1], .bool a1, .int .u64 a2, .int .i64 a3, .bool a4] w fun e w' => e = .returned (.int .u64 r) ∧ Below w.heap.size w w' := by
 have hu43 := Try.underlying43
 have HB := As0.mk (Below.refl w.heap.size w)
 have H : (if a2 = 0 then ((ff_signed.f a0_0 a0_1 a1 0).bind fun t109 => (some t109)) else ((bits_Len64.f a2).bind fun t110 => ((ff_least.f a0_0 a0_1).bind fun t111 => (if (wrap64 ((mx (wrap64 ((wrap64 ((wrap64 (t110 + (mn (mx a3 (-5000)) 5000))) - 1)) - a0_0)) t111) - (mn (mx a3 (-5000)) 5000))) ≤ 0 then (if 0 ≤ (IntKind.u64.wrap (wrap64 (-(wrap64 ((mx (wrap64 ((wrap64 ((wrap64 (t110 + (mn (mx a3 (-5000)) 5000))) - 1)) - a0_0)) t111) - (mn (mx a3 (-5000)) 5000)))))) then (ff_round.j0 k a1 (shl .u64 a2 (IntKind.u64.wrap (wrap64 (-(wrap64 ((mx (wrap64 ((wrap64 ((wrap64 (t110 + (mn (mx a3 (-5000)) 5000))) - 1)) - a0_0)) t111) - (mn (mx a3 (-5000)) 5000))))))) (mn (mx a3 (-5000)) 5000) (wrap64 ((mx (wrap64 ((wrap64 ((wrap64 (t110 + (mn (mx a3 (-5000)) 5000))) - 1)) - a0_0)) t111) - (mn (mx a3 (-5000)) 5000))) a0_0 a0_1) else (none)) else (if (wrap64 ((mx (wrap64 ((wrap64 ((wrap64 (t110 + (mn (mx a3 (-5000)) 5000))) - 1)) - a0_0)) t111) - (mn (mx a3 (-5000)) 5000))) > 64 then (ff_round.j0 k a1 0 (mn (mx a3 (-5000)) 5000) (wrap64 ((mx (wrap64 ((wrap64 ((wrap64 (t110 + (mn (mx a3 (-5000)) 5000))) - 1)) - a0_0)) t111) - (mn (mx a3 (-5000)) 5000))) a0_0 a0_1) else (if 0 ≤ (IntKind.u64.wrap (wrap64 (64 - (wrap64 ((mx (wrap64 ((wrap64 ((wrap64 (t110 + (mn (mx a3 (-5000)) 5000))) - 1)) - a0_0)) t111) - (mn (mx a3 (-5000)) 5000)))))) then (if 0 ≤ (IntKind.u64.wrap (wrap64 ((wrap64 ((mx (wrap64 ((wrap64 ((wrap64 (t110 + (mn (mx a3 (-5000)) 5000))) - 1)) - a0_0)) t111) - (mn (mx a3 (-5000)) 5000))) - 1))) then (if (shl .u64 a2 (IntKind.u64.wrap (wrap64 (64 - (wrap64 ((mx (wrap64 ((wrap64 ((wrap64 (t110 + (mn (mx a3 (-5000)) 5000))) - 1)) - a0_0)) t111) - (mn (mx a3 (-5000)) 5000))))))) > 9223372036854775808 then (ff_round.j0 k a1 (IntKind.u64.wrap ((shr .u64 (a2 / 2) (IntKind.u64.wrap (wrap64 ((wrap64 ((mx (wrap64 ((wrap64 ((wrap64 (t110 + (mn (mx a3 (-5000)) 5000))) - 1)) - a0_0)) t111) - (mn (mx a3 (-5000)) 5000))) - 1)))) + 1)) (mn (mx a3 (-5000)) 5000) (wrap64 ((mx (wrap64 ((wrap64 ((wrap64 (t110 + (mn (mx a3 (-5000)) 5000))) - 1)) - a0_0)) t111) - (mn (mx a3 (-5000)) 5000))) a0_0 a0_1) else (if (shl .u64 a2 (IntKind.u64.wrap (wrap64 (64 - (wrap64 ((mx (wrap64 ((wrap64 ((wrap64 (t110 + (mn (mx a3 (-5000)) 5000))) - 1)) - a0_0)) t111) - (mn (mx a3 (-5000)) 5000))))))) = 9223372036854775808 then (if a4 = true then (ff_round.j0 k a1 (IntKind.u64.wrap ((shr .u64 (a2 / 2) (IntKind.u64.wrap (wrap64 ((wrap64 ((mx (wrap64 ((wrap64 ((wrap64 (t110 + (mn (mx a3 (-5000)) 5000))) - 1)) - a0_0)) t111) - (mn (mx a3 (-5000)) 5000))) - 1)))) + 1)) (mn (mx a3 (-5000)) 5000) (wrap64 ((mx (wrap64 ((wrap64 ((wrap64 (t110 + (mn (mx a3 (-5000)) 5000))) - 1)) - a0_0)) t111) - (mn (mx a3 (-5000)) 5000))) a0_0 a0_1) else (if (Go.bits .and .u64 (shr .u64 (a2 / 2) (IntKind.u64.wrap (wrap64 ((wrap64 ((mx (wrap64 ((wrap64 ((wrap64 (t110 + (mn (mx a3 (-5000)) 5000))) - 1)) - a0_0)) t111) - (mn (mx a3 (-5000)) 5000))) - 1)))) 1) = 1 then (ff_round.j0 k a1 (IntKind.u64.wrap ((shr .u64 (a2 / 2) (IntKind.u64.wrap (wrap64 ((wrap64 ((mx (wrap64 ((wrap64 ((wrap64 (t110 + (mn (mx a3 (-5000)) 5000))) - 1)) - a0_0)) t111) - (mn (mx a3 (-5000)) 5000))) - 1)))) + 1)) (mn (mx a3 (-5000)) 5000) (wrap64 ((mx (wrap64 ((wrap64 ((wrap64 (t110 + (mn (mx a3 (-5000)) 5000))) - 1)) - a0_0)) t111) - (mn (mx a3 (-5000)) 5000))) a0_0 a0_1) else (ff_round.j0 k a1 (shr .u64 (a2 / 2) (IntKind.u64.wrap (wrap64 ((wrap64 ((mx (wrap64 ((wrap64 ((wrap64 (t110 + (mn (mx a3 (-5000)) 5000))) - 1)) - a0_0)) t111) - (mn (mx a3 (-5000)) 5000))) - 1)))) (mn (mx a3 (-5000)) 5000) (wrap64 ((mx (wrap64 ((wrap64 ((wrap64 (t110 + (mn (mx a3 (-5000)) 5000))) - 1)) - a0_0)) t111) - (mn (mx a3 (-5000)) 5000))) a0_0 a0_1))) else (ff_round.j0 k a1 (shr .u64 (a2 / 2) (IntKind.u64.wrap (wrap64 ((wrap64 ((mx (wrap64 ((wrap64 ((wrap64 (t110 + (mn (mx a3 (-5000)) 5000))) - 1)) - a0_0)) t111) - (mn (mx a3 (-5000)) 5000))) - 1)))) (mn (mx a3 (-5000)) 5000) (wrap64 ((mx (wrap64 ((wrap64 ((wrap64 (t110 + (mn (mx a3 (-5000)) 5000))) - 1)) - a0_0)) t111) - (mn (mx a3 (-5000)) 5000))) a0_0 a0_1))) else (none)) else (none))))))) = some r := h
 clear h
 by_cases c6 : a2 = 0
 ·rw [if_pos c6] at H
  have c6b0 : (a2 == 0) = true := beq_iff_eq.mpr c6
  have c6b1 : (a2 != 0) = false := bne_eq_false_iff_eq.mpr c6
  clear c6
  replace H := zob H
  obtain ⟨t109, A70, H⟩ := H
  replace H : (some t109) = some r := H
  have A7 := As0.mk A70
  clear A70
  obtain rfl := Option.some.inj H
  go_enter Try.func33, Try.ntmps33
  go_wp2_with (first | ((with_reducible refine gate_dst (N := 5) rfl ?_); refine box_event ?hg (N := 5) ?hd (cs := #[.int .i64 a0_0, .int .i64 a0_1]) (t := 43) ?hr ?_; (case hd => rfl); (case hg => rfl); (case hr => first | (go_simp; done) | (go_simp; rfl)); intro gb108 hg w8 hbox hb; have n0_ := As0.mk (bst (by repeat (first | (with_reducible first | exact HB.out | apply bal | apply pwB_ | apply bd1) | exact HB.out)) hb); have n1_ := As0.mk (hbox); have n2_ := As0.mk ((by rw [hg]; exact (below_size (by repeat (first | (with_reducible first | exact HB.out | apply bal | apply pwB_ | apply bd1) | exact HB.out))) : w.heap.size ≤ gb108)); have n3_ := As0.mk ((by rw [hg]; exact (below_size (by repeat (first | (with_reducible first | exact HB.out | apply bal | apply pwB_ | apply bd1) | exact HB.out))) : w.heap.size ≤ gb108)); clear HB; have HB := n0_; have BK108 := n1_; have GW108 := n2_; have GE108 := n3_; clear n0_ n1_ n2_ n3_; clear hb hbox hg; have hcz9_0 : w8.cell? ⟨gb108, 0, none⟩ = some (.int .i64 a0_0) := (bce BK108.out 0).trans rfl; have hcz9_1 : w8.cell? ⟨gb108, 1, none⟩ = some (.int .i64 a0_1) := (bce BK108.out 1).trans rfl; have hfz9_0 := bkf BK108.out 0; have hfz9_1 := bkf BK108.out 1) | ((with_reducible refine gcl (f := 38) rfl ?_); refine goesL_ (some 18) rfl rfl Try.func38 (by kernel_rfl) rfl #[.agg #[.int .i64 a0_0, .int .i64 a0_1], .bool a1, .int .u64 0] rfl (by (try simp only [zmt, zmc, zmn]); first | done | rfl) ?_; (with_reducible refine (ff_signed.calls a0_0 a0_1 a1 0 t109 _ A7.out).mono ?_); rintro e w10 ⟨rfl, hb⟩; refine ⟨_, rfl, ?_⟩; have n0_ := As0.mk (bkb (g := gb108) (o := .cells #[.int .i64 a0_0, .int .i64 a0_1] 43 (0, 0)) (by (with_reducible repeat (first | refine bkN ?_ _ | refine bkd ?_ | refine bka ?_ _)); exact BK108.out) hb); have n1_ := As0.mk (bst (by repeat (first | (with_reducible first | exact HB.out | apply bal | apply pwB_ | apply bd1 | refine bse ?_ GE108.out) | exact HB.out)) hb); clear BK108; clear HB; have BK108 := n0_; have HB := n1_; clear n0_ n1_; (try clear hb); (try clear hb2); (try clear hk); (try clear hi)))
  go_ret
  exact ⟨by first | rfl | (simp [*] <;> rfl), by repeat (first | (with_reducible first | exact HB.out | apply bal | apply pwB_ | apply bd1 | refine bse ?_ GE108.out) | exact HB.out)⟩
 ·rw [if_neg c6] at H
  have c6b0 : (a2 == 0) = false := beq_eq_false_iff_ne.mpr c6
  have c6b1 : (a2 != 0) = true := bne_iff_ne.mpr c6
  obtain ⟨ji11, hji11⟩ : ∃ j_ : Int, (mx a3 (-5000)) = j_ := ⟨_, rfl⟩
  replace H : ((bits_Len64.f a2).bind fun t110 => ((ff_least.f a0_0 a0_1).bind fun t111 => (if (wrap64 ((mx (wrap64 ((wrap64 ((wrap64 (t110 + (mn (ji11) 5000))) - 1)) - a0_0)) t111) - (mn (ji11) 5000))) ≤ 0 then (if 0 ≤ (IntKind.u64.wrap (wrap64 (-(wrap64 ((mx (wrap64 ((wrap64 ((wrap64 (t110 + (mn (ji11) 5000))) - 1)) - a0_0)) t111) - (mn (ji11) 5000)))))) then (ff_round.j0 k a1 (shl .u64 a2 (IntKind.u64.wrap (wrap64 (-(wrap64 ((mx (wrap64 ((wrap64 ((wrap64 (t110 + (mn (ji11) 5000))) - 1)) - a0_0)) t111) - (mn (ji11) 5000))))))) (mn (ji11) 5000) (wrap64 ((mx (wrap64 ((wrap64 ((wrap64 (t110 + (mn (ji11) 5000))) - 1)) - a0_0)) t111) - (mn (ji11) 5000))) a0_0 a0_1) else (none)) else (if (wrap64 ((mx (wrap64 ((wrap64 ((wrap64 (t110 + (mn (ji11) 5000))) - 1)) - a0_0)) t111) - (mn (ji11) 5000))) > 64 then (ff_round.j0 k a1 0 (mn (ji11) 5000) (wrap64 ((mx (wrap64 ((wrap64 ((wrap64 (t110 + (mn (ji11) 5000))) - 1)) - a0_0)) t111) - (mn (ji11) 5000))) a0_0 a0_1) else (if 0 ≤ (IntKind.u64.wrap (wrap64 (64 - (wrap64 ((mx (wrap64 ((wrap64 ((wrap64 (t110 + (mn (ji11) 5000))) - 1)) - a0_0)) t111) - (mn (ji11) 5000)))))) then (if 0 ≤ (IntKind.u64.wrap (wrap64 ((wrap64 ((mx (wrap64 ((wrap64 ((wrap64 (t110 + (mn (ji11) 5000))) - 1)) - a0_0)) t111) - (mn (ji11) 5000))) - 1))) then (if (shl .u64 a2 (IntKind.u64.wrap (wrap64 (64 - (wrap64 ((mx (wrap64 ((wrap64 ((wrap64 (t110 + (mn (ji11) 5000))) - 1)) - a0_0)) t111) - (mn (ji11) 5000))))))) > 9223372036854775808 then (ff_round.j0 k a1 (IntKind.u64.wrap ((shr .u64 (a2 / 2) (IntKind.u64.wrap (wrap64 ((wrap64 ((mx (wrap64 ((wrap64 ((wrap64 (t110 + (mn (ji11) 5000))) - 1)) - a0_0)) t111) - (mn (ji11) 5000))) - 1)))) + 1)) (mn (ji11) 5000) (wrap64 ((mx (wrap64 ((wrap64 ((wrap64 (t110 + (mn (ji11) 5000))) - 1)) - a0_0)) t111) - (mn (ji11) 5000))) a0_0 a0_1) else (if (shl .u64 a2 (IntKind.u64.wrap (wrap64 (64 - (wrap64 ((mx (wrap64 ((wrap64 ((wrap64 (t110 + (mn (ji11) 5000))) - 1)) - a0_0)) t111) - (mn (ji11) 5000))))))) = 9223372036854775808 then (if a4 = true then (ff_round.j0 k a1 (IntKind.u64.wrap ((shr .u64 (a2 / 2) (IntKind.u64.wrap (wrap64 ((wrap64 ((mx (wrap64 ((wrap64 ((wrap64 (t110 + (mn (ji11) 5000))) - 1)) - a0_0)) t111) - (mn (ji11) 5000))) - 1)))) + 1)) (mn (ji11) 5000) (wrap64 ((mx (wrap64 ((wrap64 ((wrap64 (t110 + (mn (ji11) 5000))) - 1)) - a0_0)) t111) - (mn (ji11) 5000))) a0_0 a0_1) else (if (Go.bits .and .u64 (shr .u64 (a2 / 2) (IntKind.u64.wrap (wrap64 ((wrap64 ((mx (wrap64 ((wrap64 ((wrap64 (t110 + (mn (ji11) 5000))) - 1)) - a0_0)) t111) - (mn (ji11) 5000))) - 1)))) 1) = 1 then (ff_round.j0 k a1 (IntKind.u64.wrap ((shr .u64 (a2 / 2) (IntKind.u64.wrap (wrap64 ((wrap64 ((mx (wrap64 ((wrap64 ((wrap64 (t110 + (mn (ji11) 5000))) - 1)) - a0_0)) t111) - (mn (ji11) 5000))) - 1)))) + 1)) (mn (ji11) 5000) (wrap64 ((mx (wrap64 ((wrap64 ((wrap64 (t110 + (mn (ji11) 5000))) - 1)) - a0_0)) t111) - (mn (ji11) 5000))) a0_0 a0_1) else (ff_round.j0 k a1 (shr .u64 (a2 / 2) (IntKind.u64.wrap (wrap64 ((wrap64 ((mx (wrap64 ((wrap64 ((wrap64 (t110 + (mn (ji11) 5000))) - 1)) - a0_0)) t111) - (mn (ji11) 5000))) - 1)))) (mn (ji11) 5000) (wrap64 ((mx (wrap64 ((wrap64 ((wrap64 (t110 + (mn (ji11) 5000))) - 1)) - a0_0)) t111) - (mn (ji11) 5000))) a0_0 a0_1))) else (ff_round.j0 k a1 (shr .u64 (a2 / 2) (IntKind.u64.wrap (wrap64 ((wrap64 ((mx (wrap64 ((wrap64 ((wrap64 (t110 + (mn (ji11) 5000))) - 1)) - a0_0)) t111) - (mn (ji11) 5000))) - 1)))) (mn (ji11) 5000) (wrap64 ((mx (wrap64 ((wrap64 ((wrap64 (t110 + (mn (ji11) 5000))) - 1)) - a0_0)) t111) - (mn (ji11) 5000))) a0_0 a0_1))) else (none)) else (none)))))) = some r := by first | (rw [hji11] at H; exact H) | (simp only [hji11] at H ⊢; exact H)
  have hji11_ : (if a3 < (-5000) then (-5000) else a3) = ji11 := hji11
  obtain ⟨ji12, hji12⟩ : ∃ j_ : Int, (mn (ji11) 5000) = j_ := ⟨_, rfl⟩
  replace H : ((bits_Len64.f a2).bind fun t110 => ((ff_least.f a0_0 a0_1).bind fun t111 => (if (wrap64 ((mx (wrap64 ((wrap64 ((wrap64 (t110 + (ji12))) - 1)) - a0_0)) t111) - (ji12))) ≤ 0 then (if 0 ≤ (IntKind.u64.wrap (wrap64 (-(wrap64 ((mx (wrap64 ((wrap64 ((wrap64 (t110 + (ji12))) - 1)) - a0_0)) t111) - (ji12)))))) then (ff_round.j0 k a1 (shl .u64 a2 (IntKind.u64.wrap (wrap64 (-(wrap64 ((mx (wrap64 ((wrap64 ((wrap64 (t110 + (ji12))) - 1)) - a0_0)) t111) - (ji12))))))) ji12 (wrap64 ((mx (wrap64 ((wrap64 ((wrap64 (t110 + (ji12))) - 1)) - a0_0)) t111) - (ji12))) a0_0 a0_1) else (none)) else (if (wrap64 ((mx (wrap64 ((wrap64 ((wrap64 (t110 + (ji12))) - 1)) - a0_0)) t111) - (ji12))) > 64 then (ff_round.j0 k a1 0 ji12 (wrap64 ((mx (wrap64 ((wrap64 ((wrap64 (t110 + (ji12))) - 1)) - a0_0)) t111) - (ji12))) a0_0 a0_1) else (if 0 ≤ (IntKind.u64.wrap (wrap64 (64 - (wrap64 ((mx (wrap64 ((wrap64 ((wrap64 (t110 + (ji12))) - 1)) - a0_0)) t111) - (ji12)))))) then (if 0 ≤ (IntKind.u64.wrap (wrap64 ((wrap64 ((mx (wrap64 ((wrap64 ((wrap64 (t110 + (ji12))) - 1)) - a0_0)) t111) - (ji12))) - 1))) then (if (shl .u64 a2 (IntKind.u64.wrap (wrap64 (64 - (wrap64 ((mx (wrap64 ((wrap64 ((wrap64 (t110 + (ji12))) - 1)) - a0_0)) t111) - (ji12))))))) > 9223372036854775808 then (ff_round.j0 k a1 (IntKind.u64.wrap ((shr .u64 (a2 / 2) (IntKind.u64.wrap (wrap64 ((wrap64 ((mx (wrap64 ((wrap64 ((wrap64 (t110 + (ji12))) - 1)) - a0_0)) t111) - (ji12))) - 1)))) + 1)) ji12 (wrap64 ((mx (wrap64 ((wrap64 ((wrap64 (t110 + (ji12))) - 1)) - a0_0)) t111) - (ji12))) a0_0 a0_1) else (if (shl .u64 a2 (IntKind.u64.wrap (wrap64 (64 - (wrap64 ((mx (wrap64 ((wrap64 ((wrap64 (t110 + (ji12))) - 1)) - a0_0)) t111) - (ji12))))))) = 9223372036854775808 then (if a4 = true then (ff_round.j0 k a1 (IntKind.u64.wrap ((shr .u64 (a2 / 2) (IntKind.u64.wrap (wrap64 ((wrap64 ((mx (wrap64 ((wrap64 ((wrap64 (t110 + (ji12))) - 1)) - a0_0)) t111) - (ji12))) - 1)))) + 1)) ji12 (wrap64 ((mx (wrap64 ((wrap64 ((wrap64 (t110 + (ji12))) - 1)) - a0_0)) t111) - (ji12))) a0_0 a0_1) else (if (Go.bits .and .u64 (shr .u64 (a2 / 2) (IntKind.u64.wrap (wrap64 ((wrap64 ((mx (wrap64 ((wrap64 ((wrap64 (t110 + (ji12))) - 1)) - a0_0)) t111) - (ji12))) - 1)))) 1) = 1 then (ff_round.j0 k a1 (IntKind.u64.wrap ((shr .u64 (a2 / 2) (IntKind.u64.wrap (wrap64 ((wrap64 ((mx (wrap64 ((wrap64 ((wrap64 (t110 + (ji12))) - 1)) - a0_0)) t111) - (ji12))) - 1)))) + 1)) ji12 (wrap64 ((mx (wrap64 ((wrap64 ((wrap64 (t110 + (ji12))) - 1)) - a0_0)) t111) - (ji12))) a0_0 a0_1) else (ff_round.j0 k a1 (shr .u64 (a2 / 2) (IntKind.u64.wrap (wrap64 ((wrap64 ((mx (wrap64 ((wrap64 ((wrap64 (t110 + (ji12))) - 1)) - a0_0)) t111) - (ji12))) - 1)))) ji12 (wrap64 ((mx (wrap64 ((wrap64 ((wrap64 (t110 + (ji12))) - 1)) - a0_0)) t111) - (ji12))) a0_0 a0_1))) else (ff_round.j0 k a1 (shr .u64 (a2 / 2) (IntKind.u64.wrap (wrap64 ((wrap64 ((mx (wrap64 ((wrap64 ((wrap64 (t110 + (ji12))) - 1)) - a0_0)) t111) - (ji12))) - 1)))) ji12 (wrap64 ((mx (wrap64 ((wrap64 ((wrap64 (t110 + (ji12))) - 1)) - a0_0)) t111) - (ji12))) a0_0 a0_1))) else (none)) else (none)))))) = some r := by first | (rw [hji12] at H; exact H) | (simp only [hji12] at H ⊢; exact H)
  have hji12_ : (if 5000 < (ji11) then 5000 else (ji11)) = ji12 := hji12
  replace H := zob H
  obtain ⟨t110, A130, H⟩ := H
  replace H : ((ff_least.f a0_0 a0_1).bind fun t111 => (if (wrap64 ((mx (wrap64 ((wrap64 ((wrap64 (t110 + (ji12))) - 1)) - a0_0)) t111) - (ji12))) ≤ 0 then (if 0 ≤ (IntKind.u64.wrap (wrap64 (-(wrap64 ((mx (wrap64 ((wrap64 ((wrap64 (t110 + (ji12))) - 1)) - a0_0)) t111) - (ji12)))))) then (ff_round.j0 k a1 (shl .u64 a2 (IntKind.u64.wrap (wrap64 (-(wrap64 ((mx (wrap64 ((wrap64 ((wrap64 (t110 + (ji12))) - 1)) - a0_0)) t111) - (ji12))))))) ji12 (wrap64 ((mx (wrap64 ((wrap64 ((wrap64 (t110 + (ji12))) - 1)) - a0_0)) t111) - (ji12))) a0_0 a0_1) else (none)) else (if (wrap64 ((mx (wrap64 ((wrap64 ((wrap64 (t110 + (ji12))) - 1)) - a0_0)) t111) - (ji12))) > 64 then (ff_round.j0 k a1 0 ji12 (wrap64 ((mx (wrap64 ((wrap64 ((wrap64 (t110 + (ji12))) - 1)) - a0_0)) t111) - (ji12))) a0_0 a0_1) else (if 0 ≤ (IntKind.u64.wrap (wrap64 (64 - (wrap64 ((mx (wrap64 ((wrap64 ((wrap64 (t110 + (ji12))) - 1)) - a0_0)) t111) - (ji12)))))) then (if 0 ≤ (IntKind.u64.wrap (wrap64 ((wrap64 ((mx (wrap64 ((wrap64 ((wrap64 (t110 + (ji12))) - 1)) - a0_0)) t111) - (ji12))) - 1))) then (if (shl .u64 a2 (IntKind.u64.wrap (wrap64 (64 - (wrap64 ((mx (wrap64 ((wrap64 ((wrap64 (t110 + (ji12))) - 1)) - a0_0)) t111) - (ji12))))))) > 9223372036854775808 then (ff_round.j0 k a1 (IntKind.u64.wrap ((shr .u64 (a2 / 2) (IntKind.u64.wrap (wrap64 ((wrap64 ((mx (wrap64 ((wrap64 ((wrap64 (t110 + (ji12))) - 1)) - a0_0)) t111) - (ji12))) - 1)))) + 1)) ji12 (wrap64 ((mx (wrap64 ((wrap64 ((wrap64 (t110 + (ji12))) - 1)) - a0_0)) t111) - (ji12))) a0_0 a0_1) else (if (shl .u64 a2 (IntKind.u64.wrap (wrap64 (64 - (wrap64 ((mx (wrap64 ((wrap64 ((wrap64 (t110 + (ji12))) - 1)) - a0_0)) t111) - (ji12))))))) = 9223372036854775808 then (if a4 = true then (ff_round.j0 k a1 (IntKind.u64.wrap ((shr .u64 (a2 / 2) (IntKind.u64.wrap (wrap64 ((wrap64 ((mx (wrap64 ((wrap64 ((wrap64 (t110 + (ji12))) - 1)) - a0_0)) t111) - (ji12))) - 1)))) + 1)) ji12 (wrap64 ((mx (wrap64 ((wrap64 ((wrap64 (t110 + (ji12))) - 1)) - a0_0)) t111) - (ji12))) a0_0 a0_1) else (if (Go.bits .and .u64 (shr .u64 (a2 / 2) (IntKind.u64.wrap (wrap64 ((wrap64 ((mx (wrap64 ((wrap64 ((wrap64 (t110 + (ji12))) - 1)) - a0_0)) t111) - (ji12))) - 1)))) 1) = 1 then (ff_round.j0 k a1 (IntKind.u64.wrap ((shr .u64 (a2 / 2) (IntKind.u64.wrap (wrap64 ((wrap64 ((mx (wrap64 ((wrap64 ((wrap64 (t110 + (ji12))) - 1)) - a0_0)) t111) - (ji12))) - 1)))) + 1)) ji12 (wrap64 ((mx (wrap64 ((wrap64 ((wrap64 (t110 + (ji12))) - 1)) - a0_0)) t111) - (ji12))) a0_0 a0_1) else (ff_round.j0 k a1 (shr .u64 (a2 / 2) (IntKind.u64.wrap (wrap64 ((wrap64 ((mx (wrap64 ((wrap64 ((wrap64 (t110 + (ji12))) - 1)) - a0_0)) t111) - (ji12))) - 1)))) ji12 (wrap64 ((mx (wrap64 ((wrap64 ((wrap64 (t110 + (ji12))) - 1)) - a0_0)) t111) - (ji12))) a0_0 a0_1))) else (ff_round.j0 k a1 (shr .u64 (a2 / 2) (IntKind.u64.wrap (wrap64 ((wrap64 ((mx (wrap64 ((wrap64 ((wrap64 (t110 + (ji12))) - 1)) - a0_0)) t111) - (ji12))) - 1)))) ji12 (wrap64 ((mx (wrap64 ((wrap64 ((wrap64 (t110 + (ji12))) - 1)) - a0_0)) t111) - (ji12))) a0_0 a0_1))) else (none)) else (none))))) = some r := H
  have A13 := As0.mk A130
  clear A130
  replace H := zob H
  obtain ⟨t111, A140, H⟩ := H
  replace H : (if (wrap64 ((mx (wrap64 ((wrap64 ((wrap64 (t110 + (ji12))) - 1)) - a0_0)) t111) - (ji12))) ≤ 0 then (if 0 ≤ (IntKind.u64.wrap (wrap64 (-(wrap64 ((mx (wrap64 ((wrap64 ((wrap64 (t110 + (ji12))) - 1)) - a0_0)) t111) - (ji12)))))) then (ff_round.j0 k a1 (shl .u64 a2 (IntKind.u64.wrap (wrap64 (-(wrap64 ((mx (wrap64 ((wrap64 ((wrap64 (t110 + (ji12))) - 1)) - a0_0)) t111) - (ji12))))))) ji12 (wrap64 ((mx (wrap64 ((wrap64 ((wrap64 (t110 + (ji12))) - 1)) - a0_0)) t111) - (ji12))) a0_0 a0_1) else (none)) else (if (wrap64 ((mx (wrap64 ((wrap64 ((wrap64 (t110 + (ji12))) - 1)) - a0_0)) t111) - (ji12))) > 64 then (ff_round.j0 k a1 0 ji12 (wrap64 ((mx (wrap64 ((wrap64 ((wrap64 (t110 + (ji12))) - 1)) - a0_0)) t111) - (ji12))) a0_0 a0_1) else (if 0 ≤ (IntKind.u64.wrap (wrap64 (64 - (wrap64 ((mx (wrap64 ((wrap64 ((wrap64 (t110 + (ji12))) - 1)) - a0_0)) t111) - (ji12)))))) then (if 0 ≤ (IntKind.u64.wrap (wrap64 ((wrap64 ((mx (wrap64 ((wrap64 ((wrap64 (t110 + (ji12))) - 1)) - a0_0)) t111) - (ji12))) - 1))) then (if (shl .u64 a2 (IntKind.u64.wrap (wrap64 (64 - (wrap64 ((mx (wrap64 ((wrap64 ((wrap64 (t110 + (ji12))) - 1)) - a0_0)) t111) - (ji12))))))) > 9223372036854775808 then (ff_round.j0 k a1 (IntKind.u64.wrap ((shr .u64 (a2 / 2) (IntKind.u64.wrap (wrap64 ((wrap64 ((mx (wrap64 ((wrap64 ((wrap64 (t110 + (ji12))) - 1)) - a0_0)) t111) - (ji12))) - 1)))) + 1)) ji12 (wrap64 ((mx (wrap64 ((wrap64 ((wrap64 (t110 + (ji12))) - 1)) - a0_0)) t111) - (ji12))) a0_0 a0_1) else (if (shl .u64 a2 (IntKind.u64.wrap (wrap64 (64 - (wrap64 ((mx (wrap64 ((wrap64 ((wrap64 (t110 + (ji12))) - 1)) - a0_0)) t111) - (ji12))))))) = 9223372036854775808 then (if a4 = true then (ff_round.j0 k a1 (IntKind.u64.wrap ((shr .u64 (a2 / 2) (IntKind.u64.wrap (wrap64 ((wrap64 ((mx (wrap64 ((wrap64 ((wrap64 (t110 + (ji12))) - 1)) - a0_0)) t111) - (ji12))) - 1)))) + 1)) ji12 (wrap64 ((mx (wrap64 ((wrap64 ((wrap64 (t110 + (ji12))) - 1)) - a0_0)) t111) - (ji12))) a0_0 a0_1) else (if (Go.bits .and .u64 (shr .u64 (a2 / 2) (IntKind.u64.wrap (wrap64 ((wrap64 ((mx (wrap64 ((wrap64 ((wrap64 (t110 + (ji12))) - 1)) - a0_0)) t111) - (ji12))) - 1)))) 1) = 1 then (ff_round.j0 k a1 (IntKind.u64.wrap ((shr .u64 (a2 / 2) (IntKind.u64.wrap (wrap64 ((wrap64 ((mx (wrap64 ((wrap64 ((wrap64 (t110 + (ji12))) - 1)) - a0_0)) t111) - (ji12))) - 1)))) + 1)) ji12 (wrap64 ((mx (wrap64 ((wrap64 ((wrap64 (t110 + (ji12))) - 1)) - a0_0)) t111) - (ji12))) a0_0 a0_1) else (ff_round.j0 k a1 (shr .u64 (a2 / 2) (IntKind.u64.wrap (wrap64 ((wrap64 ((mx (wrap64 ((wrap64 ((wrap64 (t110 + (ji12))) - 1)) - a0_0)) t111) - (ji12))) - 1)))) ji12 (wrap64 ((mx (wrap64 ((wrap64 ((wrap64 (t110 + (ji12))) - 1)) - a0_0)) t111) - (ji12))) a0_0 a0_1))) else (ff_round.j0 k a1 (shr .u64 (a2 / 2) (IntKind.u64.wrap (wrap64 ((wrap64 ((mx (wrap64 ((wrap64 ((wrap64 (t110 + (ji12))) - 1)) - a0_0)) t111) - (ji12))) - 1)))) ji12 (wrap64 ((mx (wrap64 ((wrap64 ((wrap64 (t110 + (ji12))) - 1)) - a0_0)) t111) - (ji12))) a0_0 a0_1))) else (none)) else (none)))) = some r := H
  have A14 := As0.mk A140
  clear A140
  obtain ⟨ji15, hji15⟩ : ∃ j_ : Int, (mx (wrap64 ((wrap64 ((wrap64 (t110 + (ji12))) - 1)) - a0_0)) t111) = j_ := ⟨_, rfl⟩
  replace H : (if (wrap64 ((ji15) - (ji12))) ≤ 0 then (if 0 ≤ (IntKind.u64.wrap (wrap64 (-(wrap64 ((ji15) - (ji12)))))) then (ff_round.j0 k a1 (shl .u64 a2 (IntKind.u64.wrap (wrap64 (-(wrap64 ((ji15) - (ji12))))))) ji12 (wrap64 ((ji15) - (ji12))) a0_0 a0_1) else (none)) else (if (wrap64 ((ji15) - (ji12))) > 64 then (ff_round.j0 k a1 0 ji12 (wrap64 ((ji15) - (ji12))) a0_0 a0_1) else (if 0 ≤ (IntKind.u64.wrap (wrap64 (64 - (wrap64 ((ji15) - (ji12)))))) then (if 0 ≤ (IntKind.u64.wrap (wrap64 ((wrap64 ((ji15) - (ji12))) - 1))) then (if (shl .u64 a2 (IntKind.u64.wrap (wrap64 (64 - (wrap64 ((ji15) - (ji12))))))) > 9223372036854775808 then (ff_round.j0 k a1 (IntKind.u64.wrap ((shr .u64 (a2 / 2) (IntKind.u64.wrap (wrap64 ((wrap64 ((ji15) - (ji12))) - 1)))) + 1)) ji12 (wrap64 ((ji15) - (ji12))) a0_0 a0_1) else (if (shl .u64 a2 (IntKind.u64.wrap (wrap64 (64 - (wrap64 ((ji15) - (ji12))))))) = 9223372036854775808 then (if a4 = true then (ff_round.j0 k a1 (IntKind.u64.wrap ((shr .u64 (a2 / 2) (IntKind.u64.wrap (wrap64 ((wrap64 ((ji15) - (ji12))) - 1)))) + 1)) ji12 (wrap64 ((ji15) - (ji12))) a0_0 a0_1) else (if (Go.bits .and .u64 (shr .u64 (a2 / 2) (IntKind.u64.wrap (wrap64 ((wrap64 ((ji15) - (ji12))) - 1)))) 1) = 1 then (ff_round.j0 k a1 (IntKind.u64.wrap ((shr .u64 (a2 / 2) (IntKind.u64.wrap (wrap64 ((wrap64 ((ji15) - (ji12))) - 1)))) + 1)) ji12 (wrap64 ((ji15) - (ji12))) a0_0 a0_1) else (ff_round.j0 k a1 (shr .u64 (a2 / 2) (IntKind.u64.wrap (wrap64 ((wrap64 ((ji15) - (ji12))) - 1)))) ji12 (wrap64 ((ji15) - (ji12))) a0_0 a0_1))) else (ff_round.j0 k a1 (shr .u64 (a2 / 2) (IntKind.u64.wrap (wrap64 ((wrap64 ((ji15) - (ji12))) - 1)))) ji12 (wrap64 ((ji15) - (ji12))) a0_0 a0_1))) else (none)) else (none)))) = some r := by first | (rw [hji15] at H; exact H) | (simp only [hji15] at H ⊢; exact H)
  (try rw [hji15] at A13)
  (try rw [hji15] at A14)
  have hji15_ : (if (wrap64 ((wrap64 ((wrap64 (t110 + (ji12))) - 1)) - a0_0)) < t111 then t111 else (wrap64 ((wrap64 ((wrap64 (t110 + (ji12))) - 1)) - a0_0))) = ji15 := hji15
  have HC16 := As0.mk H
  clear H
  go_enter Try.func33, Try.ntmps33
  try go_wp2_with (first | ((with_reducible refine gate_dst (N := 5) rfl ?_); refine box_event ?hg (N := 5) ?hd (cs := #[.int .i64 a0_0, .int .i64 a0_1]) (t := 43) ?hr ?_; (case hd => rfl); (case hg => rfl); (case hr => first | (go_simp; done) | (go_simp; rfl)); intro gb108 hg w17 hbox hb; have n0_ := As0.mk (bst (by repeat (first | (with_reducible first | exact HB.out | apply bal | apply pwB_ | apply bd1) | exact HB.out)) hb); have n1_ := As0.mk (hbox); have n2_ := As0.mk ((by rw [hg]; exact (below_size (by repeat (first | (with_reducible first | exact HB.out | apply bal | apply pwB_ | apply bd1) | exact HB.out))) : w.heap.size ≤ gb108)); have n3_ := As0.mk ((by rw [hg]; exact (below_size (by repeat (first | (with_reducible first | exact HB.out | apply bal | apply pwB_ | apply bd1) | exact HB.out))) : w.heap.size ≤ gb108)); clear HB; have HB := n0_; have BK108 := n1_; have GW108 := n2_; have GE108 := n3_; clear n0_ n1_ n2_ n3_; clear hb hbox hg))
  have n0_ := As0.mk (bkd BK108.out)
  have n1_ := As0.mk (bd1 HB.out)
  clear BK108
  clear HB
  have BK108 := n0_
  have HB := n1_
  clear n0_ n1_
  refine start_ (n := 14) (S := fun w' => w'.cell? ⟨gb108, 0, none⟩ = some (.int .i64 a0_0) ∧ w'.cell? ⟨gb108, 1, none⟩ = some (.int .i64 a0_1)) (ds := []) #[false, false, false, false, false, false, false, false, false, false, false, false, false, false] (by kernel_rfl) rfl rfl ⟨(bce BK108.out 0).trans rfl, (bce BK108.out 1).trans rfl⟩ (fun hHeld => ?_); refine with_tabW ff_round.tab4 ff_round.bits4 (fun HT_ HW_ => ?_)
  generalize w17.drew = w18 at BK108 HB hHeld ⊢
  refine pure_ (i := 0) (N := some 22) (v := ?_) (a' := ?_) #[true, false, false, false, false, false, false, false, false, false, false, false, false, false] rfl rfl (any_of HT_.out (by kernel_rfl)) (fun _ _ _ h => h) (Or.inl ⟨by rfl, ?_⟩) ?_ ?_
  rotate_left
  ·intro w'
   go_simp
   with_reducible rfl
  rotate_left
  ·simp only [Act.put, zsi, zcz, zcs, i64_w, i32_w]
   rfl
  refine pure_ (i := 2) (N := some 24) (v := ?_) (a' := ?_) #[true, false, true, false, false, false, false, false, false, false, false, false, false, false] rfl rfl (any_of HT_.out (by kernel_rfl)) (fun _ _ _ h => h) (Or.inl ⟨by rfl, ?_⟩) ?_ ?_
  rotate_left
  ·intro w'
   go_simp
   with_reducible rfl
  rotate_left
  ·simp only [Act.put, zsi, zcz, zcs, i64_w, i32_w]
   rfl
  refine pure_ (i := 5) (N := some 27) (v := ?_) (a' := ?_) #[true, false, true, false, false, true, false, false, false, false, false, false, false, false] rfl rfl (any_of HT_.out (by kernel_rfl)) (fun _ _ _ h => h) (Or.inl ⟨by rfl, ?_⟩) ?_ ?_
  rotate_left
  ·intro w'
   go_simp
   with_reducible rfl
  rotate_left
  ·simp only [Act.put, zsi, zcz, zcs, i64_w, i32_w]
   rfl
  refine pure_ (i := 11) (N := some 33) (v := ?_) (a' := ?_) #[true, false, true, false, false, true, false, false, false, false, false, true, false, false] rfl rfl (any_of HT_.out (by kernel_rfl)) (fun _ _ _ h => h) (Or.inl ⟨by rfl, ?_⟩) ?_ ?_
  rotate_left
  ·intro w'
   go_simp
   with_reducible rfl
  rotate_left
  ·simp only [Act.put, zsi, zcz, zcs, i64_w, i32_w]
   rfl
  refine take_ (i := 6) (N := some 28) (v := ?_) (a' := ?_) #[true, false, true, false, false, true, true, false, false, false, false, true, false, false] rfl rfl (take_ofW HT_.out HW_.out (by kernel_rfl)) (fun _ _ _ h => h) (Or.inl ⟨by rfl, ?_⟩) hHeld ?_ ?_
  rotate_left
  ·rintro w' ⟨s0, s1⟩
   go_simp
   with_reducible rfl
  rotate_left
  ·simp only [Act.put, zsi, zcz, zcs, i64_w, i32_w]
   rfl
  refine take_ (i := 8) (N := some 30) (v := ?_) (a' := ?_) #[true, false, true, false, false, true, true, false, true, false, false, true, false, false] rfl rfl (take_ofW HT_.out HW_.out (by kernel_rfl)) (fun _ _ _ h => h) (Or.inl ⟨by rfl, ?_⟩) hHeld ?_ ?_
  rotate_left
  ·rintro w' ⟨s0, s1⟩
   go_simp
   with_reducible rfl
  rotate_left
  ·simp only [Act.put, zsi, zcz, zcs, i64_w, i32_w]
   rfl
  refine one_ (i := 1) (N := some 23) #[true, true, true, false, false, true, true, false, true, false, false, true, false, false] rfl rfl (one_of HT_.out (by kernel_rfl)) (by decide) (fun K hK => ?_)
  refine goes_ Try.func63 (by kernel_rfl) rfl #[.int .u64 a2] (by rfl) rfl rfl (by (try simp only [zmt, zmc, zmn]); first | done | rfl) ?_
  with_reducible refine (bits_Len64.calls a2 t110 _ A13.out).mono ?_
  rintro e w' ⟨rfl, ⟨nd, rfl⟩⟩
  refine ⟨_, rfl, ?_⟩
  refine hK.out _ _ ⟨(bce BK108.out 0).trans rfl, (bce BK108.out 1).trans rfl⟩ (fun hHeld => ?_)
  clear hK K
  refine norm_ (a' := ?_) ?_ ?_
  rotate_left
  ·show Act.put _ (some 23) _ = _
   simp only [Act.put, zsi, zcz, zcs, i64_w, i32_w]
   rfl
  refine pure_ (i := 3) (N := some 25) (v := ?_) (a' := ?_) #[true, true, true, true, false, true, true, false, true, false, false, true, false, false] rfl rfl (any_of HT_.out (by kernel_rfl)) (fun _ _ _ h => h) (Or.inl ⟨by rfl, ?_⟩) ?_ ?_
  rotate_left
  ·intro w'
   go_simp
   with_reducible rfl
  rotate_left
  ·simp only [Act.put, zsi, zcz, zcs, i64_w, i32_w]
   rfl
  refine pure_ (i := 4) (N := some 26) (v := ?_) (a' := ?_) #[true, true, true, true, true, true, true, false, true, false, false, true, false, false] rfl rfl (any_of HT_.out (by kernel_rfl)) (fun _ _ _ h => h) (Or.inl ⟨by rfl, ?_⟩) ?_ ?_
  rotate_left
  ·intro w'
   go_simp
   with_reducible rfl
  rotate_left
  ·simp only [Act.put, zsi, zcz, zcs, i64_w, i32_w]
   rfl
  refine pure_ (i := 7) (N := some 29) (v := ?_) (a' := ?_) #[true, true, true, true, true, true, true, true, true, false, false, true, false, false] rfl rfl (any_of HT_.out (by kernel_rfl)) (fun _ _ _ h => h) (Or.inl ⟨by rfl, ?_⟩) ?_ ?_
  rotate_left
  ·intro w'
   go_simp
   with_reducible rfl
  rotate_left
  ·simp only [Act.put, zsi, zcz, zcs, i64_w, i32_w]
   rfl
  refine one_ (i := 9) (N := some 31) #[true, true, true, true, true, true, true, true, true, true, false, true, false, false] rfl rfl (one_of HT_.out (by kernel_rfl)) (by decide) (fun K hK => ?_)
  refine goes_ Try.func64 (by kernel_rfl) rfl #[.agg #[.int .i64 a0_0, .int .i64 a0_1]] (by rfl) rfl rfl (by (try simp only [zmt, zmc, zmn]); first | done | rfl) ?_
  with_reducible refine (ff_least.calls a0_0 a0_1 t111 _ A14.out).mono ?_
  rintro e w19 ⟨rfl, hb⟩
  refine ⟨_, rfl, ?_⟩
  have n0_ := As0.mk (bkb (g := gb108) (o := .cells #[.int .i64 a0_0, .int .i64 a0_1] 43 (0, 0)) (by (with_reducible repeat (first | refine bkN ?_ _ | refine bkd ?_ | refine bka ?_ _)); exact BK108.out) hb)
  have n1_ := As0.mk (bst (by repeat (first | (with_reducible first | exact HB.out | apply bal | apply pwB_ | apply bd1 | refine bse ?_ GE108.out) | exact HB.out)) hb)
  clear BK108
  clear HB
  have BK108 := n0_
  have HB := n1_
  clear n0_ n1_
  (try clear hb)
  (try clear hb2)
  (try clear hk)
  (try clear hi)
  refine hK.out _ _ ⟨(bce BK108.out 0).trans rfl, (bce BK108.out 1).trans rfl⟩ (fun hHeld => ?_)
  clear hK K
  refine norm_ (a' := ?_) ?_ ?_
  rotate_left
  ·show Act.put _ (some 31) _ = _
   simp only [Act.put, zsi, zcz, zcs, i64_w, i32_w]
   rfl
  refine pure_ (i := 10) (N := some 32) (v := ?_) (a' := ?_) #[true, true, true, true, true, true, true, true, true, true, true, true, false, false] rfl rfl (any_of HT_.out (by kernel_rfl)) (fun _ _ _ h => h) (Or.inl ⟨by rfl, ?_⟩) ?_ ?_
  rotate_left
  ·intro w'
   go_simp
   with_reducible rfl
  rotate_left
  ·simp only [Act.put, zsi, zcz, zcs, i64_w, i32_w]
   rfl
  refine pure_ (i := 12) (N := some 34) (v := ?_) (a' := ?_) #[true, true, true, true, true, true, true, true, true, true, true, true, true, false] rfl rfl (any_of HT_.out (by kernel_rfl)) (fun _ _ _ h => h) (Or.inl ⟨by rfl, ?_⟩) ?_ ?_
  rotate_left
  ·intro w'
   go_simp
   with_reducible rfl
  rotate_left
  ·simp only [Act.put, zsi, zcz, zcs, i64_w, i32_w]
   rfl
  refine pure_ (i := 13) (N := some 11) (v := ?_) (a' := ?_) #[true, true, true, true, true, true, true, true, true, true, true, true, true, true] rfl rfl (any_of HT_.out (by kernel_rfl)) (fun _ _ _ h => h) (Or.inl ⟨by rfl, ?_⟩) ?_ ?_
  rotate_left
  ·intro w'
   go_simp
   with_reducible rfl
  rotate_left
  ·simp only [Act.put, zsi, zcz, zcs, i64_w, i32_w]
   rfl
  refine done_ (done_of HT_.out (by kernel_rfl)) ?_
  go_upto_block 0 with (fail)
  go_cut [2] (fun v2 wc => ∃ (kq : Nat) (x2_15 : Int), v2 = .int .u64 x2_15 ∧ As0 (ff_round.j0 kq a1 x2_15 ji12 (wrap64 ((ji15) - (ji12))) a0_0 a0_1 = some r) ∧ As0 (kq ≤ k) ∧ As0 (wc.heap[gb108]? = some (.cells #[.int .i64 a0_0, .int .i64 a0_1] 43 (0, 0))) ∧ As0 (Below w.heap.size w wc))
  case first =>
   have H := HC16.out
   clear HC16
   by_cases c20 : (wrap64 ((ji15) - (ji12))) ≤ 0
   ·rw [if_pos c20] at H
    have c20b0 : decide ((wrap64 ((ji15) - (ji12))) ≤ 0) = true := decide_eq_true c20
    clear c20
    (first | rw [c20b0] | (simp only [i64_w, i32_w]; rw [c20b0]) | skip)
    obtain ⟨ji21, hji21⟩ : ∃ j_ : Int, (IntKind.u64.wrap (wrap64 (-(wrap64 ((ji15) - (ji12)))))) = j_ := ⟨_, rfl⟩
    replace H : (if 0 ≤ (ji21) then (ff_round.j0 k a1 (shl .u64 a2 (ji21)) ji12 (wrap64 ((ji15) - (ji12))) a0_0 a0_1) else (none)) = some r := by first | (rw [hji21] at H; exact H) | (simp only [hji21] at H ⊢; exact H)
    by_cases c22 : 0 ≤ (ji21)
    ·rw [if_pos c22] at H
     have c22b0 := eq_true c22
     have c22b1 : decide (0 ≤ (ji21)) = true := decide_eq_true c22
     clear c22
     obtain ⟨ji23, hji23⟩ : ∃ j_ : Int, (shl .u64 a2 (ji21)) = j_ := ⟨_, rfl⟩
     replace H : (ff_round.j0 k a1 ji23 ji12 (wrap64 ((ji15) - (ji12))) a0_0 a0_1) = some r := by first | (rw [hji23] at H; exact H) | (simp only [hji23] at H ⊢; exact H)
     have hji23_ : (IntKind.u64.wrap (a2 * 2 ^ min (ji21).toNat 64)) = ji23 := hji23
     have hji23z : (ji21) ≤ 64 → (IntKind.u64.wrap (a2 * 2 ^ (ji21).toNat)) = ji23 := shl_small hji23
     have H' := As0.mk H
     clear H
     go_wp2
     go_meet
     case rel => exact ⟨_, (ji23), (by first | rfl | (simp; done) | (simp only [← hji23] <;> (first | rfl | simp)) | (simp [*]; done)), H', ⟨by first | omega | exact Nat.le_refl _⟩, ⟨by (with_reducible repeat (first | refine bkN ?_ _ | refine bkd ?_ | refine bka ?_ _)); exact BK108.out⟩, ⟨by repeat (first | (with_reducible first | exact HB.out | apply bal | apply pwB_ | apply bd1 | refine bse ?_ GE108.out) | exact HB.out)⟩⟩
    ·rw [if_neg c22] at H
     exact absurd H (by simp)
   ·rw [if_neg c20] at H
    have c20b0 : decide ((wrap64 ((ji15) - (ji12))) ≤ 0) = false := decide_eq_false c20
    clear c20
    (first | rw [c20b0] | (simp only [i64_w, i32_w]; rw [c20b0]) | skip)
    by_cases c24 : (wrap64 ((ji15) - (ji12))) > 64
    ·rw [if_pos c24] at H
     have c24b0 : decide (64 < (wrap64 ((ji15) - (ji12)))) = true := decide_eq_true c24
     clear c24
     have H' := As0.mk H
     clear H
     go_wp2
     go_meet
     case rel => exact ⟨_, (0), (by first | rfl | (simp; done) | (simp [*]; done)), H', ⟨by first | omega | exact Nat.le_refl _⟩, ⟨by (with_reducible repeat (first | refine bkN ?_ _ | refine bkd ?_ | refine bka ?_ _)); exact BK108.out⟩, ⟨by repeat (first | (with_reducible first | exact HB.out | apply bal | apply pwB_ | apply bd1 | refine bse ?_ GE108.out) | exact HB.out)⟩⟩
    ·rw [if_neg c24] at H
     have c24b0 : decide (64 < (wrap64 ((ji15) - (ji12)))) = false := decide_eq_false c24
     clear c24
     obtain ⟨ji25, hji25⟩ : ∃ j_ : Int, (IntKind.u64.wrap (wrap64 (64 - (wrap64 ((ji15) - (ji12)))))) = j_ := ⟨_, rfl⟩
     replace H : (if 0 ≤ (ji25) then (if 0 ≤ (IntKind.u64.wrap (wrap64 ((wrap64 ((ji15) - (ji12))) - 1))) then (if (shl .u64 a2 (ji25)) > 9223372036854775808 then (ff_round.j0 k a1 (IntKind.u64.wrap ((shr .u64 (a2 / 2) (IntKind.u64.wrap (wrap64 ((wrap64 ((ji15) - (ji12))) - 1)))) + 1)) ji12 (wrap64 ((ji15) - (ji12))) a0_0 a0_1) else (if (shl .u64 a2 (ji25)) = 9223372036854775808 then (if a4 = true then (ff_round.j0 k a1 (IntKind.u64.wrap ((shr .u64 (a2 / 2) (IntKind.u64.wrap (wrap64 ((wrap64 ((ji15) - (ji12))) - 1)))) + 1)) ji12 (wrap64 ((ji15) - (ji12))) a0_0 a0_1) else (if (Go.bits .and .u64 (shr .u64 (a2 / 2) (IntKind.u64.wrap (wrap64 ((wrap64 ((ji15) - (ji12))) - 1)))) 1) = 1 then (ff_round.j0 k a1 (IntKind.u64.wrap ((shr .u64 (a2 / 2) (IntKind.u64.wrap (wrap64 ((wrap64 ((ji15) - (ji12))) - 1)))) + 1)) ji12 (wrap64 ((ji15) - (ji12))) a0_0 a0_1) else (ff_round.j0 k a1 (shr .u64 (a2 / 2) (IntKind.u64.wrap (wrap64 ((wrap64 ((ji15) - (ji12))) - 1)))) ji12 (wrap64 ((ji15) - (ji12))) a0_0 a0_1))) else (ff_round.j0 k a1 (shr .u64 (a2 / 2) (IntKind.u64.wrap (wrap64 ((wrap64 ((ji15) - (ji12))) - 1)))) ji12 (wrap64 ((ji15) - (ji12))) a0_0 a0_1))) else (none)) else (none)) = some r := by first | (rw [hji25] at H; exact H) | (simp only [hji25] at H ⊢; exact H)
     by_cases c26 : 0 ≤ (ji25)
     ·rw [if_pos c26] at H
      have c26b0 := eq_true c26
      have c26b1 : decide (0 ≤ (ji25)) = true := decide_eq_true c26
      clear c26
      obtain ⟨ji27, hji27⟩ : ∃ j_ : Int, (shl .u64 a2 (ji25)) = j_ := ⟨_, rfl⟩
      replace H : (if 0 ≤ (IntKind.u64.wrap (wrap64 ((wrap64 ((ji15) - (ji12))) - 1))) then (if (ji27) > 9223372036854775808 then (ff_round.j0 k a1 (IntKind.u64.wrap ((shr .u64 (a2 / 2) (IntKind.u64.wrap (wrap64 ((wrap64 ((ji15) - (ji12))) - 1)))) + 1)) ji12 (wrap64 ((ji15) - (ji12))) a0_0 a0_1) else (if (ji27) = 9223372036854775808 then (if a4 = true then (ff_round.j0 k a1 (IntKind.u64.wrap ((shr .u64 (a2 / 2) (IntKind.u64.wrap (wrap64 ((wrap64 ((ji15) - (ji12))) - 1)))) + 1)) ji12 (wrap64 ((ji15) - (ji12))) a0_0 a0_1) else (if (Go.bits .and .u64 (shr .u64 (a2 / 2) (IntKind.u64.wrap (wrap64 ((wrap64 ((ji15) - (ji12))) - 1)))) 1) = 1 then (ff_round.j0 k a1 (IntKind.u64.wrap ((shr .u64 (a2 / 2) (IntKind.u64.wrap (wrap64 ((wrap64 ((ji15) - (ji12))) - 1)))) + 1)) ji12 (wrap64 ((ji15) - (ji12))) a0_0 a0_1) else (ff_round.j0 k a1 (shr .u64 (a2 / 2) (IntKind.u64.wrap (wrap64 ((wrap64 ((ji15) - (ji12))) - 1)))) ji12 (wrap64 ((ji15) - (ji12))) a0_0 a0_1))) else (ff_round.j0 k a1 (shr .u64 (a2 / 2) (IntKind.u64.wrap (wrap64 ((wrap64 ((ji15) - (ji12))) - 1)))) ji12 (wrap64 ((ji15) - (ji12))) a0_0 a0_1))) else (none)) = some r := by first | (rw [hji27] at H; exact H) | (simp only [hji27] at H ⊢; exact H)
      have hji27_ : (IntKind.u64.wrap (a2 * 2 ^ min (ji25).toNat 64)) = ji27 := hji27
      have hji27z : (ji25) ≤ 64 → (IntKind.u64.wrap (a2 * 2 ^ (ji25).toNat)) = ji27 := shl_small hji27
      obtain ⟨ji28, hji28⟩ : ∃ j_ : Int, (IntKind.u64.wrap (wrap64 ((wrap64 ((ji15) - (ji12))) - 1))) = j_ := ⟨_, rfl⟩
      replace H : (if 0 ≤ (ji28) then (if (ji27) > 9223372036854775808 then (ff_round.j0 k a1 (IntKind.u64.wrap ((shr .u64 (a2 / 2) (ji28)) + 1)) ji12 (wrap64 ((ji15) - (ji12))) a0_0 a0_1) else (if (ji27) = 9223372036854775808 then (if a4 = true then (ff_round.j0 k a1 (IntKind.u64.wrap ((shr .u64 (a2 / 2) (ji28)) + 1)) ji12 (wrap64 ((ji15) - (ji12))) a0_0 a0_1) else (if (Go.bits .and .u64 (shr .u64 (a2 / 2) (ji28)) 1) = 1 then (ff_round.j0 k a1 (IntKind.u64.wrap ((shr .u64 (a2 / 2) (ji28)) + 1)) ji12 (wrap64 ((ji15) - (ji12))) a0_0 a0_1) else (ff_round.j0 k a1 (shr .u64 (a2 / 2) (ji28)) ji12 (wrap64 ((ji15) - (ji12))) a0_0 a0_1))) else (ff_round.j0 k a1 (shr .u64 (a2 / 2) (ji28)) ji12 (wrap64 ((ji15) - (ji12))) a0_0 a0_1))) else (none)) = some r := by first | (rw [hji28] at H; exact H) | (simp only [hji28] at H ⊢; exact H)
      by_cases c29 : 0 ≤ (ji28)
      ·rw [if_pos c29] at H
       have c29b0 := eq_true c29
       have c29b1 : decide (0 ≤ (ji28)) = true := decide_eq_true c29
       clear c29
       obtain ⟨ji30, hji30⟩ : ∃ j_ : Int, (shr .u64 (a2 / 2) (ji28)) = j_ := ⟨_, rfl⟩
       replace H : (if (ji27) > 9223372036854775808 then (ff_round.j0 k a1 (IntKind.u64.wrap ((ji30) + 1)) ji12 (wrap64 ((ji15) - (ji12))) a0_0 a0_1) else (if (ji27) = 9223372036854775808 then (if a4 = true then (ff_round.j0 k a1 (IntKind.u64.wrap ((ji30) + 1)) ji12 (wrap64 ((ji15) - (ji12))) a0_0 a0_1) else (if (Go.bits .and .u64 (ji30) 1) = 1 then (ff_round.j0 k a1 (IntKind.u64.wrap ((ji30) + 1)) ji12 (wrap64 ((ji15) - (ji12))) a0_0 a0_1) else (ff_round.j0 k a1 ji30 ji12 (wrap64 ((ji15) - (ji12))) a0_0 a0_1))) else (ff_round.j0 k a1 ji30 ji12 (wrap64 ((ji15) - (ji12))) a0_0 a0_1))) = some r := by first | (rw [hji30] at H; exact H) | (simp only [hji30] at H ⊢; exact H)
       have hji30_ : ((a2 / 2) / 2 ^ min (ji28).toNat 64) = ji30 := hji30
       have hji30z : (ji28) ≤ 64 → ((a2 / 2) / 2 ^ (ji28).toNat) = ji30 := shr_small hji30
       by_cases c31 : (ji27) > 9223372036854775808
       ·rw [if_pos c31] at H
        have c31b0 : decide (9223372036854775808 < (ji27)) = true := decide_eq_true c31
        clear c31
        have H' := As0.mk H
        clear H
        go_wp2
        go_meet
        case rel => exact ⟨_, (IntKind.u64.wrap ((ji30) + 1)), (by first | rfl | (simp; done) | (simp only [← hji30] <;> (first | rfl | simp)) | (simp [*]; done)), H', ⟨by first | omega | exact Nat.le_refl _⟩, ⟨by (with_reducible repeat (first | refine bkN ?_ _ | refine bkd ?_ | refine bka ?_ _)); exact BK108.out⟩, ⟨by repeat (first | (with_reducible first | exact HB.out | apply bal | apply pwB_ | apply bd1 | refine bse ?_ GE108.out) | exact HB.out)⟩⟩
       ·rw [if_neg c31] at H
        have c31b0 : decide (9223372036854775808 < (ji27)) = false := decide_eq_false c31
        clear c31
        by_cases c32 : (ji27) = 9223372036854775808
        ·rw [if_pos c32] at H
         have c32b0 : ((ji27) == 9223372036854775808) = true := beq_iff_eq.mpr c32
         have c32b1 : ((ji27) != 9223372036854775808) = false := bne_eq_false_iff_eq.mpr c32
         clear c32
         by_cases c33 : a4 = true
         ·subst c33
          have H1 : (ff_round.j0 k a1 (IntKind.u64.wrap ((ji30) + 1)) ji12 (wrap64 ((ji15) - (ji12))) a0_0 a0_1) = some r := by rw [if_pos rfl] at H; exact H
          clear H
          have H := H1
          clear H1
          have H' := As0.mk H
          clear H
          go_wp2
          go_meet
          case rel => exact ⟨_, (IntKind.u64.wrap ((ji30) + 1)), (by first | rfl | (simp; done) | (simp only [← hji30] <;> (first | rfl | simp)) | (simp [*]; done)), H', ⟨by first | omega | exact Nat.le_refl _⟩, ⟨by (with_reducible repeat (first | refine bkN ?_ _ | refine bkd ?_ | refine bka ?_ _)); exact BK108.out⟩, ⟨by repeat (first | (with_reducible first | exact HB.out | apply bal | apply pwB_ | apply bd1 | refine bse ?_ GE108.out) | exact HB.out)⟩⟩
         ·replace c33 := Bool.eq_false_iff.mpr c33
          subst c33
          have H1 : (if (Go.bits .and .u64 (ji30) 1) = 1 then (ff_round.j0 k a1 (IntKind.u64.wrap ((ji30) + 1)) ji12 (wrap64 ((ji15) - (ji12))) a0_0 a0_1) else (ff_round.j0 k a1 ji30 ji12 (wrap64 ((ji15) - (ji12))) a0_0 a0_1)) = some r := by rw [if_neg (show ¬ (false = true) by decide)] at H; exact H
          clear H
          have H := H1
          clear H1
          by_cases c34 : (Go.bits .and .u64 (ji30) 1) = 1
          ·rw [if_pos c34] at H
           have c34b0 : ((Go.bits .and .u64 (ji30) 1) == 1) = true := beq_iff_eq.mpr c34
           have c34b1 : ((Go.bits .and .u64 (ji30) 1) != 1) = false := bne_eq_false_iff_eq.mpr c34
           clear c34
           have H' := As0.mk H
           clear H
           go_wp2
           go_meet
           case rel => exact ⟨_, (IntKind.u64.wrap ((ji30) + 1)), (by first | rfl | (simp; done) | (simp only [← hji30] <;> (first | rfl | simp)) | (simp [*]; done)), H', ⟨by first | omega | exact Nat.le_refl _⟩, ⟨by (with_reducible repeat (first | refine bkN ?_ _ | refine bkd ?_ | refine bka ?_ _)); exact BK108.out⟩, ⟨by repeat (first | (with_reducible first | exact HB.out | apply bal | apply pwB_ | apply bd1 | refine bse ?_ GE108.out) | exact HB.out)⟩⟩
          ·rw [if_neg c34] at H
           have c34b0 : ((Go.bits .and .u64 (ji30) 1) == 1) = false := beq_eq_false_iff_ne.mpr c34
           have c34b1 : ((Go.bits .and .u64 (ji30) 1) != 1) = true := bne_iff_ne.mpr c34
           have H' := As0.mk H
           clear H
           go_wp2
           go_meet
           case rel => exact ⟨_, (ji30), (by first | rfl | (simp; done) | (simp only [← hji30] <;> (first | rfl | simp)) | (simp [*]; done)), H', ⟨by first | omega | exact Nat.le_refl _⟩, ⟨by (with_reducible repeat (first | refine bkN ?_ _ | refine bkd ?_ | refine bka ?_ _)); exact BK108.out⟩, ⟨by repeat (first | (with_reducible first | exact HB.out | apply bal | apply pwB_ | apply bd1 | refine bse ?_ GE108.out) | exact HB.out)⟩⟩
        ·rw [if_neg c32] at H
         have c32b0 : ((ji27) == 9223372036854775808) = false := beq_eq_false_iff_ne.mpr c32
         have c32b1 : ((ji27) != 9223372036854775808) = true := bne_iff_ne.mpr c32
         have H' := As0.mk H
         clear H
         go_wp2
         go_meet
         case rel => exact ⟨_, (ji30), (by first | rfl | (simp; done) | (simp only [← hji30] <;> (first | rfl | simp)) | (simp [*]; done)), H', ⟨by first | omega | exact Nat.le_refl _⟩, ⟨by (with_reducible repeat (first | refine bkN ?_ _ | refine bkd ?_ | refine bka ?_ _)); exact BK108.out⟩, ⟨by repeat (first | (with_reducible first | exact HB.out | apply bal | apply pwB_ | apply bd1 | refine bse ?_ GE108.out) | exact HB.out)⟩⟩
      ·rw [if_neg c29] at H
       exact absurd H (by simp)
     ·rw [if_neg c26] at H
      exact absurd H (by simp)
  case rest =>
   clear HC16
   try clear c2
   try clear p2
   try clear c3
   try clear c6
   try clear c6b0
   try clear c6b1
   try clear p6
   try clear c20
   try clear c20b0
   try clear c22
   try clear c22b0
   try clear c22b1
   try clear c24
   try clear c24b0
   try clear c26
   try clear c26b0
   try clear c26b1
   try clear c29
   try clear c29b0
   try clear c29b1
   try clear c31
   try clear c31b0
   try clear c32
   try clear c32b0
   try clear c32b1
   try clear c33
   try clear c34
   try clear c34b0
   try clear c34b1
   try clear hcz9_0
   try clear hcz9_1
   try clear hfz9_0
   try clear hfz9_1
   obtain ⟨kq, x2_15, rfl, HA, HJ15, BK108, HB⟩ := hcut
   cases kq with
   | zero => exact absurd HA.out (by simp [ff_round.j0])
   | succ kj15 =>
    have H := HA.out
    clear HA
    simp only [ff_round.j0] at H
    obtain ⟨ji35, hji35⟩ : ∃ j_ : Int, (IntKind.u64.wrap (a0_0)) = j_ := ⟨_, rfl⟩
    replace H : (if 0 ≤ (ji35) then (if x2_15 ≥ (shl .u64 1 (ji35)) then ((ff_least.f a0_0 a0_1).bind fun t112 => (ff_round.j1 kj15 a1 x2_15 (wrap64 ((wrap64 (ji12 + (wrap64 ((ji15) - (ji12))))) - t112)) a0_0 a0_1)) else (ff_round.j1 kj15 a1 x2_15 0 a0_0 a0_1)) else (none)) = some r := by first | (rw [hji35] at H; exact H) | (simp only [hji35] at H ⊢; exact H)
    by_cases c36 : 0 ≤ (ji35)
    ·rw [if_pos c36] at H
     have c36b0 := eq_true c36
     have c36b1 : decide (0 ≤ (ji35)) = true := decide_eq_true c36
     clear c36
     obtain ⟨ji37, hji37⟩ : ∃ j_ : Int, (shl .u64 1 (ji35)) = j_ := ⟨_, rfl⟩
     replace H : (if x2_15 ≥ (ji37) then ((ff_least.f a0_0 a0_1).bind fun t112 => (ff_round.j1 kj15 a1 x2_15 (wrap64 ((wrap64 (ji12 + (wrap64 ((ji15) - (ji12))))) - t112)) a0_0 a0_1)) else (ff_round.j1 kj15 a1 x2_15 0 a0_0 a0_1)) = some r := by first | (rw [hji37] at H; exact H) | (simp only [hji37] at H ⊢; exact H)
     have hji37_ : (IntKind.u64.wrap (1 * 2 ^ min (ji35).toNat 64)) = ji37 := hji37
     have hji37z : (ji35) ≤ 64 → (IntKind.u64.wrap (1 * 2 ^ (ji35).toNat)) = ji37 := shl_small hji37
     have hji37u : (IntKind.u64.wrap (2 ^ min (ji35).toNat 64)) = ji37 := by have h_ := hji37_; rw [Int.one_mul] at h_; exact h_
     have hji37v : (ji35) ≤ 64 → (IntKind.u64.wrap (2 ^ (ji35).toNat)) = ji37 := fun hle_ => by have h_ := hji37z hle_; rw [Int.one_mul] at h_; exact h_
     have HC38 := As0.mk H
     clear H
     have hcz39_0 : wc.cell? ⟨gb108, 0, none⟩ = some (.int .i64 a0_0) := (bce BK108.out 0).trans rfl
     have hcz39_1 : wc.cell? ⟨gb108, 1, none⟩ = some (.int .i64 a0_1) := (bce BK108.out 1).trans rfl
     have hfz39_0 := bkf BK108.out 0
     have hfz39_1 := bkf BK108.out 1
     go_upto_if 78 with (fail)
     go_cut [13] (fun v13 wc => ∃ (kq : Nat) (x13_37 : Int), v13 = .int .i64 x13_37 ∧ As0 (ff_round.j1 kq a1 x2_15 x13_37 a0_0 a0_1 = some r) ∧ As0 (kq ≤ kj15) ∧ As0 (wc.heap[gb108]? = some (.cells #[.int .i64 a0_0, .int .i64 a0_1] 43 (0, 0))) ∧ As0 (Below w.heap.size w wc))
     case first =>
      have H := HC38.out
      clear HC38
      by_cases c40 : x2_15 ≥ (ji37)
      ·rw [if_pos c40] at H
       have c40b0 : decide ((ji37) ≤ x2_15) = true := decide_eq_true c40
       clear c40
       (first | rw [c40b0] | (simp only [i64_w, i32_w]; rw [c40b0]) | skip)
       replace H := zob H
       obtain ⟨t112, A410, H⟩ := H
       replace H : (ff_round.j1 kj15 a1 x2_15 (wrap64 ((wrap64 (ji12 + (wrap64 ((ji15) - (ji12))))) - t112)) a0_0 a0_1) = some r := H
       have A41 := As0.mk A410
       clear A410
       have H' := As0.mk H
       clear H
       have hcz42_0 : wc.cell? ⟨gb108, 0, none⟩ = some (.int .i64 a0_0) := (bce BK108.out 0).trans rfl
       have hcz42_1 : wc.cell? ⟨gb108, 1, none⟩ = some (.int .i64 a0_1) := (bce BK108.out 1).trans rfl
       have hfz42_0 := bkf BK108.out 0
       have hfz42_1 := bkf BK108.out 1
       go_wp2_with (first | ((with_reducible refine gcl (f := 64) rfl ?_); refine goesL_ (some 83) rfl rfl Try.func64 (by kernel_rfl) rfl #[.agg #[.int .i64 a0_0, .int .i64 a0_1]] rfl (by (try simp only [zmt, zmc, zmn]); first | done | rfl) ?_; (with_reducible refine (ff_least.calls a0_0 a0_1 t112 _ A41.out).mono ?_); rintro e w43 ⟨rfl, hb⟩; refine ⟨_, rfl, ?_⟩; have n0_ := As0.mk (bkb (g := gb108) (o := .cells #[.int .i64 a0_0, .int .i64 a0_1] 43 (0, 0)) (by (with_reducible repeat (first | refine bkN ?_ _ | refine bkd ?_ | refine bka ?_ _)); exact BK108.out) hb); have n1_ := As0.mk (bst (by repeat (first | (with_reducible first | exact HB.out | apply bal | apply pwB_ | apply bd1 | refine bse ?_ GE108.out) | exact HB.out)) hb); clear BK108; clear HB; have BK108 := n0_; have HB := n1_; clear n0_ n1_; (try clear hb); (try clear hb2); (try clear hk); (try clear hi)))
       go_meet
       case rel => exact ⟨_, (wrap64 ((wrap64 (ji12 + (wrap64 ((ji15) - (ji12))))) - t112)), (by first | rfl | (simp; done) | (simp only [← hji12, ← hji15] <;> (first | rfl | simp)) | (simp [*]; done)), H', ⟨by have := HJ15.out; first | omega | exact Nat.le_refl _⟩, ⟨by (with_reducible repeat (first | refine bkN ?_ _ | refine bkd ?_ | refine bka ?_ _)); exact BK108.out⟩, ⟨by repeat (first | (with_reducible first | exact HB.out | apply bal | apply pwB_ | apply bd1 | refine bse ?_ GE108.out) | exact HB.out)⟩⟩
      ·rw [if_neg c40] at H
       have c40b0 : decide ((ji37) ≤ x2_15) = false := decide_eq_false c40
       clear c40
       (first | rw [c40b0] | (simp only [i64_w, i32_w]; rw [c40b0]) | skip)
       have H' := As0.mk H
       clear H
       go_wp2
       go_meet
       case rel => exact ⟨_, (0), (by first | rfl | (simp; done) | (simp [*]; done)), H', ⟨by have := HJ15.out; first | omega | exact Nat.le_refl _⟩, ⟨by (with_reducible repeat (first | refine bkN ?_ _ | refine bkd ?_ | refine bka ?_ _)); exact BK108.out⟩, ⟨by repeat (first | (with_reducible first | exact HB.out | apply bal | apply pwB_ | apply bd1 | refine bse ?_ GE108.out) | exact HB.out)⟩⟩
     case rest =>
      clear HC38
      try clear c2
      try clear p2
      try clear c3
      try clear c4
      try clear c6
      try clear c6b0
      try clear c6b1
      try clear p6
      try clear c20
      try clear c20b0
      try clear c22
      try clear c22b0
      try clear c22b1
      try clear c24
      try clear c24b0
      try clear c26
      try clear c26b0
      try clear c26b1
      try clear c29
      try clear c29b0
      try clear c29b1
      try clear c31
      try clear c31b0
      try clear c32
      try clear c32b0
      try clear c32b1
      try clear c33
      try clear c34
      try clear c34b0
      try clear c34b1
      try clear c36
      try clear c36b0
      try clear c36b1
      try clear c38
      try clear c40
      try clear c40b0
      try clear hcz39_0
      try clear hcz39_1
      try clear hcz42_0
      try clear hcz42_1
      try clear hcz9_0
      try clear hcz9_1
      try clear hfz39_0
      try clear hfz39_1
      try clear hfz42_0
      try clear hfz42_1
      try clear hfz9_0
      try clear hfz9_1
      try clear p2
      try clear p6
      obtain ⟨kq, x13_37, rfl, HA, HJ37, BK108, HB⟩ := hcut
      cases kq with
      | zero => exact absurd HA.out (by simp [ff_round.j1])
      | succ kj37 =>
       have H := HA.out
       clear HA
       simp only [ff_round.j1] at H
       obtain ⟨ji44, hji44⟩ : ∃ j_ : Int, (IntKind.u64.wrap (a0_1)) = j_ := ⟨_, rfl⟩
       replace H : (if 0 ≤ (ji44) then (if x13_37 ≥ (shl .i64 1 (ji44)) then ((ff_infinity.f a0_0 a0_1).bind fun t113 => ((ff_signed.f a0_0 a0_1 a1 t113).bind fun t114 => (some t114))) else (if 0 ≤ (IntKind.u64.wrap (a0_0)) then ((ff_infinity.f a0_0 a0_1).bind fun t115 => ((ff_signed.f a0_0 a0_1 a1 (mn (IntKind.u64.wrap ((shl .u64 (IntKind.u64.wrap (x13_37)) (IntKind.u64.wrap (a0_0))) + x2_15)) t115)).bind fun t116 => (some t116))) else (none))) else (none)) = some r := by first | (rw [hji44] at H; exact H) | (simp only [hji44] at H ⊢; exact H)
       by_cases c45 : 0 ≤ (ji44)
       ·rw [if_pos c45] at H
        have c45b0 := eq_true c45
        have c45b1 : decide (0 ≤ (ji44)) = true := decide_eq_true c45
        clear c45
        obtain ⟨ji46, hji46⟩ : ∃ j_ : Int, (shl .i64 1 (ji44)) = j_ := ⟨_, rfl⟩
        replace H : (if x13_37 ≥ (ji46) then ((ff_infinity.f a0_0 a0_1).bind fun t113 => ((ff_signed.f a0_0 a0_1 a1 t113).bind fun t114 => (some t114))) else (if 0 ≤ (IntKind.u64.wrap (a0_0)) then ((ff_infinity.f a0_0 a0_1).bind fun t115 => ((ff_signed.f a0_0 a0_1 a1 (mn (IntKind.u64.wrap ((shl .u64 (IntKind.u64.wrap (x13_37)) (IntKind.u64.wrap (a0_0))) + x2_15)) t115)).bind fun t116 => (some t116))) else (none))) = some r := by first | (rw [hji46] at H; exact H) | (simp only [hji46] at H ⊢; exact H)
        have hji46_ : (IntKind.i64.wrap (1 * 2 ^ min (ji44).toNat 64)) = ji46 := hji46
        have hji46z : (ji44) ≤ 64 → (IntKind.i64.wrap (1 * 2 ^ (ji44).toNat)) = ji46 := shl_small hji46
        have hji46u : (IntKind.i64.wrap (2 ^ min (ji44).toNat 64)) = ji46 := by have h_ := hji46_; rw [Int.one_mul] at h_; exact h_
        have hji46v : (ji44) ≤ 64 → (IntKind.i64.wrap (2 ^ (ji44).toNat)) = ji46 := fun hle_ => by have h_ := hji46z hle_; rw [Int.one_mul] at h_; exact h_
        have hji46y : (wrap64 (1 * 2 ^ min (ji44).toNat 64)) = ji46 := (i64_w _).symm.trans hji46_
        have hji46x : (ji44) ≤ 64 → (wrap64 (1 * 2 ^ (ji44).toNat)) = ji46 := fun h_ => (i64_w _).symm.trans (hji46z h_)
        by_cases c47 : x13_37 ≥ (ji46)
        ·rw [if_pos c47] at H
         have c47b0 : decide ((ji46) ≤ x13_37) = true := decide_eq_true c47
         clear c47
         replace H := zob H
         obtain ⟨t113, A480, H⟩ := H
         replace H : ((ff_signed.f a0_0 a0_1 a1 t113).bind fun t114 => (some t114)) = some r := H
         have A48 := As0.mk A480
         clear A480
         replace H := zob H
         obtain ⟨t114, A490, H⟩ := H
         replace H : (some t114) = some r := H
         have A49 := As0.mk A490
         clear A490
         obtain rfl := Option.some.inj H
         have hcz50_0 : wc.cell? ⟨gb108, 0, none⟩ = some (.int .i64 a0_0) := (bce BK108.out 0).trans rfl
         have hcz50_1 : wc.cell? ⟨gb108, 1, none⟩ = some (.int .i64 a0_1) := (bce BK108.out 1).trans rfl
         have hfz50_0 := bkf BK108.out 0
         have hfz50_1 := bkf BK108.out 1
         try go_wp2
         have n0_ := As0.mk (bkd BK108.out)
         have n1_ := As0.mk (bd1 HB.out)
         clear BK108
         clear HB
         have BK108 := n0_
         have HB := n1_
         clear n0_ n1_
         refine start_ (n := 6) (S := fun w' => w'.cell? ⟨gb108, 0, none⟩ = some (.int .i64 a0_0) ∧ w'.cell? ⟨gb108, 1, none⟩ = some (.int .i64 a0_1)) (ds := []) #[false, false, false, false, false, false] (by kernel_rfl) rfl rfl ⟨(bce BK108.out 0).trans rfl, (bce BK108.out 1).trans rfl⟩ (fun hHeld => ?_)
         generalize wc.drew = w51 at BK108 HB hHeld ⊢
         refine pure_ (i := 1) (N := some 92) (v := ?_) (a' := ?_) #[false, true, false, false, false, false] rfl rfl (by kernel_rfl) (fun _ _ _ h => h) (Or.inl ⟨by rfl, ?_⟩) ?_ ?_
         rotate_left
         ·intro w'
          go_simp
          with_reducible rfl
         rotate_left
         ·simp only [Act.put, zsi, zcz, zcs, i64_w, i32_w]
          rfl
         refine take_ (i := 0) (N := some 91) (v := ?_) (a' := ?_) #[true, true, false, false, false, false] rfl rfl (by kernel_rfl) (fun _ _ _ h => h) (Or.inl ⟨by rfl, ?_⟩) hHeld ?_ ?_
         rotate_left
         ·rintro w' ⟨s0, s1⟩
          go_simp
          with_reducible rfl
         rotate_left
         ·simp only [Act.put, zsi, zcz, zcs, i64_w, i32_w]
          rfl
         refine take_ (i := 2) (N := some 93) (v := ?_) (a' := ?_) #[true, true, true, false, false, false] rfl rfl (by kernel_rfl) (fun _ _ _ h => h) (Or.inl ⟨by rfl, ?_⟩) hHeld ?_ ?_
         rotate_left
         ·rintro w' ⟨s0, s1⟩
          go_simp
          with_reducible rfl
         rotate_left
         ·simp only [Act.put, zsi, zcz, zcs, i64_w, i32_w]
          rfl
         refine one_ (i := 3) (N := some 94) #[true, true, true, true, false, false] rfl rfl (by kernel_rfl) (by decide) (fun K hK => ?_)
         refine goes_ Try.func50 (by kernel_rfl) rfl #[.agg #[.int .i64 a0_0, .int .i64 a0_1]] (by rfl) rfl rfl (by (try simp only [zmt, zmc, zmn]); first | done | rfl) ?_
         with_reducible refine (ff_infinity.calls a0_0 a0_1 t113 _ A48.out).mono ?_
         rintro e w52 ⟨rfl, hb⟩
         refine ⟨_, rfl, ?_⟩
         have n0_ := As0.mk (bkb (g := gb108) (o := .cells #[.int .i64 a0_0, .int .i64 a0_1] 43 (0, 0)) (by (with_reducible repeat (first | refine bkN ?_ _ | refine bkd ?_ | refine bka ?_ _)); exact BK108.out) hb)
         have n1_ := As0.mk (bst (by repeat (first | (with_reducible first | exact HB.out | apply bal | apply pwB_ | apply bd1 | refine bse ?_ GE108.out) | exact HB.out)) hb)
         clear BK108
         clear HB
         have BK108 := n0_
         have HB := n1_
         clear n0_ n1_
         (try clear hb)
         (try clear hb2)
         (try clear hk)
         (try clear hi)
         refine hK.out _ _ ⟨(bce BK108.out 0).trans rfl, (bce BK108.out 1).trans rfl⟩ (fun hHeld => ?_)
         clear hK K
         refine norm_ (a' := ?_) ?_ ?_
         rotate_left
         ·show Act.put _ (some 94) _ = _
          simp only [Act.put, zsi, zcz, zcs, i64_w, i32_w]
          rfl
         refine one_ (i := 4) (N := some 95) #[true, true, true, true, true, false] rfl rfl (by kernel_rfl) (by decide) (fun K hK => ?_)
         refine goes_ Try.func38 (by kernel_rfl) rfl #[.agg #[.int .i64 a0_0, .int .i64 a0_1], .bool a1, .int .u64 t113] (by rfl) rfl rfl (by (try simp only [zmt, zmc, zmn]); first | done | rfl) ?_
         with_reducible refine (ff_signed.calls a0_0 a0_1 a1 t113 t114 _ A49.out).mono ?_
         rintro e w53 ⟨rfl, hb⟩
         refine ⟨_, rfl, ?_⟩
         have n0_ := As0.mk (bkb (g := gb108) (o := .cells #[.int .i64 a0_0, .int .i64 a0_1] 43 (0, 0)) (by (with_reducible repeat (first | refine bkN ?_ _ | refine bkd ?_ | refine bka ?_ _)); exact BK108.out) hb)
         have n1_ := As0.mk (bst (by repeat (first | (with_reducible first | exact HB.out | apply bal | apply pwB_ | apply bd1 | refine bse ?_ GE108.out) | exact HB.out)) hb)
         clear BK108
         clear HB
         have BK108 := n0_
         have HB := n1_
         clear n0_ n1_
         (try clear hb)
         (try clear hb2)
         (try clear hk)
         (try clear hi)
         refine hK.out _ _ ⟨(bce BK108.out 0).trans rfl, (bce BK108.out 1).trans rfl⟩ (fun hHeld => ?_)
         clear hK K
         refine norm_ (a' := ?_) ?_ ?_
         rotate_left
         ·show Act.put _ (some 95) _ = _
          simp only [Act.put, zsi, zcz, zcs, i64_w, i32_w]
          rfl
         refine pure_ (i := 5) (N := some 10) (v := ?_) (a' := ?_) #[true, true, true, true, true, true] rfl rfl (by kernel_rfl) (fun _ _ _ h => h) (Or.inl ⟨by rfl, ?_⟩) ?_ ?_
         rotate_left
         ·intro w'
          go_simp
          with_reducible rfl
         rotate_left
         ·simp only [Act.put, zsi, zcz, zcs, i64_w, i32_w]
          rfl
         refine done_ (by kernel_rfl) ?_
         try go_wp2
         go_ret
         exact ⟨by first | rfl | (simp only [← hji11, ← hji12, ← hji15, ← hji35, ← hji37, ← hji44, ← hji46]; first | rfl) | (simp [*] <;> rfl), by repeat (first | (with_reducible first | exact HB.out | apply bal | apply pwB_ | apply bd1 | refine bse ?_ GE108.out) | exact HB.out)⟩
        ·rw [if_neg c47] at H
         have c47b0 : decide ((ji46) ≤ x13_37) = false := decide_eq_false c47
         clear c47
         obtain ⟨ji54, hji54⟩ : ∃ j_ : Int, (IntKind.u64.wrap (a0_0)) = j_ := ⟨_, rfl⟩
         have hMEND : ji54 = ji35 := hji54.symm.trans hji35
         subst hMEND
         have hMENDx : (0 ≤ ji54) = True := eq_true (by rw [← hji54, IntKind.wrap_u64]; omega)
         have hMENDy : decide (0 ≤ ji54) = true := decide_eq_true (by rw [← hji54, IntKind.wrap_u64]; omega)
         replace H : (if 0 ≤ (ji54) then ((ff_infinity.f a0_0 a0_1).bind fun t115 => ((ff_signed.f a0_0 a0_1 a1 (mn (IntKind.u64.wrap ((shl .u64 (IntKind.u64.wrap (x13_37)) (ji54)) + x2_15)) t115)).bind fun t116 => (some t116))) else (none)) = some r := by first | (rw [hji54] at H; exact H) | (simp only [hji54] at H ⊢; exact H)
         by_cases c55 : 0 ≤ (ji54)
         ·rw [if_pos c55] at H
          have c55b0 := eq_true c55
          have c55b1 : decide (0 ≤ (ji54)) = true := decide_eq_true c55
          clear c55
          obtain ⟨ji56, hji56⟩ : ∃ j_ : Int, (shl .u64 (IntKind.u64.wrap (x13_37)) (ji54)) = j_ := ⟨_, rfl⟩
          replace H : ((ff_infinity.f a0_0 a0_1).bind fun t115 => ((ff_signed.f a0_0 a0_1 a1 (mn (IntKind.u64.wrap ((ji56) + x2_15)) t115)).bind fun t116 => (some t116))) = some r := by first | (rw [hji56] at H; exact H) | (simp only [hji56] at H ⊢; exact H)
          have hji56_ : (IntKind.u64.wrap ((IntKind.u64.wrap (x13_37)) * 2 ^ min (ji54).toNat 64)) = ji56 := hji56
          have hji56z : (ji54) ≤ 64 → (IntKind.u64.wrap ((IntKind.u64.wrap (x13_37)) * 2 ^ (ji54).toNat)) = ji56 := shl_small hji56
          replace H := zob H
          obtain ⟨t115, A570, H⟩ := H
          replace H : ((ff_signed.f a0_0 a0_1 a1 (mn (IntKind.u64.wrap ((ji56) + x2_15)) t115)).bind fun t116 => (some t116)) = some r := H
          have A57 := As0.mk A570
          clear A570
          obtain ⟨ji58, hji58⟩ : ∃ j_ : Int, (mn (IntKind.u64.wrap ((ji56) + x2_15)) t115) = j_ := ⟨_, rfl⟩
          replace H : ((ff_signed.f a0_0 a0_1 a1 (ji58)).bind fun t116 => (some t116)) = some r := by first | (rw [hji58] at H; exact H) | (simp only [hji58] at H ⊢; exact H)
          (try rw [hji58] at A57)
          have hji58_ : (if t115 < (IntKind.u64.wrap ((ji56) + x2_15)) then t115 else (IntKind.u64.wrap ((ji56) + x2_15))) = ji58 := hji58
          replace H := zob H
          obtain ⟨t116, A590, H⟩ := H
          replace H : (some t116) = some r := H
          have A59 := As0.mk A590
          clear A590
          obtain rfl := Option.some.inj H
          have hcz60_0 : wc.cell? ⟨gb108, 0, none⟩ = some (.int .i64 a0_0) := (bce BK108.out 0).trans rfl
          have hcz60_1 : wc.cell? ⟨gb108, 1, none⟩ = some (.int .i64 a0_1) := (bce BK108.out 1).trans rfl
          have hfz60_0 := bkf BK108.out 0
          have hfz60_1 := bkf BK108.out 1
          try go_wp2
          have n0_ := As0.mk (bkd BK108.out)
          have n1_ := As0.mk (bd1 HB.out)
          clear BK108
          clear HB
          have BK108 := n0_
          have HB := n1_
          clear n0_ n1_
          refine start_ (n := 15) (S := fun w' => w'.cell? ⟨gb108, 0, none⟩ = some (.int .i64 a0_0) ∧ w'.cell? ⟨gb108, 1, none⟩ = some (.int .i64 a0_1)) (ds := []) #[false, false, false, false, false, false, false, false, false, false, false, false, false, false, false] (by kernel_rfl) rfl rfl ⟨(bce BK108.out 0).trans rfl, (bce BK108.out 1).trans rfl⟩ (fun hHeld => ?_); refine with_tabW ff_round.tab18 ff_round.bits18 (fun HT_ HW_ => ?_)
          generalize wc.drew = w61 at BK108 HB hHeld ⊢
          refine pure_ (i := 1) (N := some 97) (v := ?_) (a' := ?_) #[false, true, false, false, false, false, false, false, false, false, false, false, false, false, false] rfl rfl (any_of HT_.out (by kernel_rfl)) (fun _ _ _ h => h) (Or.inl ⟨by rfl, ?_⟩) ?_ ?_
          rotate_left
          ·intro w'
           go_simp
           with_reducible rfl
          rotate_left
          ·simp only [Act.put, zsi, zcz, zcs, i64_w, i32_w]
           rfl
          refine pure_ (i := 2) (N := some 98) (v := ?_) (a' := ?_) #[false, true, true, false, false, false, false, false, false, false, false, false, false, false, false] rfl rfl (any_of HT_.out (by kernel_rfl)) (fun _ _ _ h => h) (Or.inl ⟨by rfl, ?_⟩) ?_ ?_
          rotate_left
          ·intro w'
           go_simp
           with_reducible rfl
          rotate_left
          ·simp only [Act.put, zsi, zcz, zcs, i64_w, i32_w]
           rfl
          refine pure_ (i := 3) (N := some 99) (v := ?_) (a' := ?_) #[false, true, true, true, false, false, false, false, false, false, false, false, false, false, false] rfl rfl (any_of HT_.out (by kernel_rfl)) (fun _ _ _ h => h) (Or.inl ⟨by rfl, ?_⟩) ?_ ?_
          rotate_left
          ·intro w'
           go_simp
           with_reducible rfl
          rotate_left
          ·simp only [Act.put, zsi, zcz, zcs, i64_w, i32_w]
           rfl
          refine pure_ (i := 4) (N := some 100) (v := ?_) (a' := ?_) #[false, true, true, true, true, false, false, false, false, false, false, false, false, false, false] rfl rfl (any_of HT_.out (by kernel_rfl)) (fun _ _ _ h => h) (Or.inl ⟨by rfl, ?_⟩) ?_ ?_
          rotate_left
          ·intro w'
           go_simp
           with_reducible rfl
          rotate_left
          ·simp only [Act.put, zsi, zcz, zcs, i64_w, i32_w]
           rfl
          refine pure_ (i := 8) (N := some 104) (v := ?_) (a' := ?_) #[false, true, true, true, true, false, false, false, true, false, false, false, false, false, false] rfl rfl (any_of HT_.out (by kernel_rfl)) (fun _ _ _ h => h) (Or.inl ⟨by rfl, ?_⟩) ?_ ?_
          rotate_left
          ·intro w'
           go_simp
           with_reducible rfl
          rotate_left
          ·simp only [Act.put, zsi, zcz, zcs, i64_w, i32_w]
           rfl
          refine take_ (i := 0) (N := some 96) (v := ?_) (a' := ?_) #[true, true, true, true, true, false, false, false, true, false, false, false, false, false, false] rfl rfl (take_ofW HT_.out HW_.out (by kernel_rfl)) (fun _ _ _ h => h) (Or.inl ⟨by rfl, ?_⟩) hHeld ?_ ?_
          rotate_left
          ·rintro w' ⟨s0, s1⟩
           go_simp
           with_reducible rfl
          rotate_left
          ·simp only [Act.put, zsi, zcz, zcs, i64_w, i32_w]
           rfl
          refine take_ (i := 5) (N := some 101) (v := ?_) (a' := ?_) #[true, true, true, true, true, true, false, false, true, false, false, false, false, false, false] rfl rfl (take_ofW HT_.out HW_.out (by kernel_rfl)) (fun _ _ _ h => h) (Or.inl ⟨by rfl, ?_⟩) hHeld ?_ ?_
          rotate_left
          ·rintro w' ⟨s0, s1⟩
           go_simp
           with_reducible rfl
          rotate_left
          ·simp only [Act.put, zsi, zcz, zcs, i64_w, i32_w]
           rfl
          refine pure_ (i := 6) (N := some 102) (v := ?_) (a' := ?_) #[true, true, true, true, true, true, true, false, true, false, false, false, false, false, false] rfl rfl (any_of HT_.out (by kernel_rfl)) (fun _ _ _ h => h) (Or.inl ⟨by rfl, ?_⟩) ?_ ?_
          rotate_left
          ·intro w'
           go_simp
           with_reducible rfl
          rotate_left
          ·simp only [Act.put, zsi, zcz, zcs, i64_w, i32_w]
           rfl
          refine pure_ (i := 7) (N := some 103) (v := ?_) (a' := ?_) #[true, true, true, true, true, true, true, true, true, false, false, false, false, false, false] rfl rfl (any_of HT_.out (by kernel_rfl)) (fun _ _ _ h => h) (Or.inl ⟨by rfl, ?_⟩) ?_ ?_
          rotate_left
          ·intro w'
           go_simp
           with_reducible rfl
          rotate_left
          ·simp only [Act.put, zsi, zcz, zcs, i64_w, i32_w]
           rfl
          refine pure_ (i := 9) (N := some 105) (v := ?_) (a' := ?_) #[true, true, true, true, true, true, true, true, true, true, false, false, false, false, false] rfl rfl (any_of HT_.out (by kernel_rfl)) (fun _ _ _ h => h) (Or.inl ⟨by rfl, ?_⟩) ?_ ?_
          rotate_left
          ·intro w'
           go_simp
           with_reducible rfl
          rotate_left
          ·simp only [Act.put, zsi, zcz, zcs, i64_w, i32_w]
           rfl
          refine take_ (i := 10) (N := some 106) (v := ?_) (a' := ?_) #[true, true, true, true, true, true, true, true, true, true, true, false, false, false, false] rfl rfl (take_ofW HT_.out HW_.out (by kernel_rfl)) (fun _ _ _ h => h) (Or.inl ⟨by rfl, ?_⟩) hHeld ?_ ?_
          rotate_left
          ·rintro w' ⟨s0, s1⟩
           go_simp
           with_reducible rfl
          rotate_left
          ·simp only [Act.put, zsi, zcz, zcs, i64_w, i32_w]
           rfl
          refine one_ (i := 11) (N := some 107) #[true, true, true, true, true, true, true, true, true, true, true, true, false, false, false] rfl rfl (one_of HT_.out (by kernel_rfl)) (by decide) (fun K hK => ?_)
          refine goes_ Try.func50 (by kernel_rfl) rfl #[.agg #[.int .i64 a0_0, .int .i64 a0_1]] (by rfl) rfl rfl (by (try simp only [zmt, zmc, zmn]); first | done | rfl) ?_
          with_reducible refine (ff_infinity.calls a0_0 a0_1 t115 _ A57.out).mono ?_
          rintro e w62 ⟨rfl, hb⟩
          refine ⟨_, rfl, ?_⟩
          have n0_ := As0.mk (bkb (g := gb108) (o := .cells #[.int .i64 a0_0, .int .i64 a0_1] 43 (0, 0)) (by (with_reducible repeat (first | refine bkN ?_ _ | refine bkd ?_ | refine bka ?_ _)); exact BK108.out) hb)
          have n1_ := As0.mk (bst (by repeat (first | (with_reducible first | exact HB.out | apply bal | apply pwB_ | apply bd1 | refine bse ?_ GE108.out) | exact HB.out)) hb)
          clear BK108
          clear HB
          have BK108 := n0_
          have HB := n1_
          clear n0_ n1_
          (try clear hb)
          (try clear hb2)
          (try clear hk)
          (try clear hi)
          refine hK.out _ _ ⟨(bce BK108.out 0).trans rfl, (bce BK108.out 1).trans rfl⟩ (fun hHeld => ?_)
          clear hK K
          refine norm_ (a' := ?_) ?_ ?_
          rotate_left
          ·show Act.put _ (some 107) _ = _
           simp only [Act.put, zsi, zcz, zcs, i64_w, i32_w]
           rfl
          refine pure_ (i := 12) (N := some 108) (v := ?_) (a' := ?_) #[true, true, true, true, true, true, true, true, true, true, true, true, true, false, false] rfl rfl (any_of HT_.out (by kernel_rfl)) (fun _ _ _ h => h) (Or.inl ⟨by rfl, ?_⟩) ?_ ?_
          rotate_left
          ·intro w'
           go_simp
           with_reducible rfl
          rotate_left
          ·simp only [Act.put, zsi, zcz, zcs, i64_w, i32_w]
           rfl
          refine one_ (i := 13) (N := some 109) #[true, true, true, true, true, true, true, true, true, true, true, true, true, true, false] rfl rfl (one_of HT_.out (by kernel_rfl)) (by decide) (fun K hK => ?_)
          refine goes_ Try.func38 (by kernel_rfl) rfl #[.agg #[.int .i64 a0_0, .int .i64 a0_1], .bool a1, .int .u64 ji58] (by rfl) rfl rfl (by (try simp only [zmt, zmc, zmn]); first | done | (simp only [hji58]; rfl) | rfl) ?_
          with_reducible refine (ff_signed.calls a0_0 a0_1 a1 ji58 t116 _ A59.out).mono ?_
          rintro e w63 ⟨rfl, hb⟩
          refine ⟨_, rfl, ?_⟩
          have n0_ := As0.mk (bkb (g := gb108) (o := .cells #[.int .i64 a0_0, .int .i64 a0_1] 43 (0, 0)) (by (with_reducible repeat (first | refine bkN ?_ _ | refine bkd ?_ | refine bka ?_ _)); exact BK108.out) hb)
          have n1_ := As0.mk (bst (by repeat (first | (with_reducible first | exact HB.out | apply bal | apply pwB_ | apply bd1 | refine bse ?_ GE108.out) | exact HB.out)) hb)
          clear BK108
          clear HB
          have BK108 := n0_
          have HB := n1_
          clear n0_ n1_
          (try clear hb)
          (try clear hb2)
          (try clear hk)
          (try clear hi)
          refine hK.out _ _ ⟨(bce BK108.out 0).trans rfl, (bce BK108.out 1).trans rfl⟩ (fun hHeld => ?_)
          clear hK K
          refine norm_ (a' := ?_) ?_ ?_
          rotate_left
          ·show Act.put _ (some 109) _ = _
           simp only [Act.put, zsi, zcz, zcs, i64_w, i32_w]
           rfl
          refine pure_ (i := 14) (N := some 10) (v := ?_) (a' := ?_) #[true, true, true, true, true, true, true, true, true, true, true, true, true, true, true] rfl rfl (any_of HT_.out (by kernel_rfl)) (fun _ _ _ h => h) (Or.inl ⟨by rfl, ?_⟩) ?_ ?_
          rotate_left
          ·intro w'
           go_simp
           with_reducible rfl
          rotate_left
          ·simp only [Act.put, zsi, zcz, zcs, i64_w, i32_w]
           rfl
          refine done_ (done_of HT_.out (by kernel_rfl)) ?_
          try go_wp2
          go_ret
          exact ⟨by first | rfl | (simp only [← hji11, ← hji12, ← hji15, ← hji35, ← hji37, ← hji44, ← hji46, ← hji54, ← hji56, ← hji58]; first | rfl) | (simp [*] <;> rfl), by repeat (first | (with_reducible first | exact HB.out | apply bal | apply pwB_ | apply bd1 | refine bse ?_ GE108.out) | exact HB.out)⟩
         ·rw [if_neg c55] at H
          exact absurd H (by simp)
       ·rw [if_neg c45] at H
        exact absurd H (by simp)
    ·rw [if_neg c36] at H
     exact absurd H (by simp)
end Go.Proofs.Ytjfmomogidgbpaa.PFl
namespace Go.Proofs.Ytjfmomogidgbpaa.PFl
open Go.RowKit Go.Proofs.YtjfmomogidgbpaaW.PrintWords Go.Proofs.YtjfmomogidgbpaaW.PrintLast Go.Proofs.YtjfmomogidgbpaaW.PrintMore
attribute [local go_sem] max2_int min2_int max_two min_two max_three min_three max_four min_four
set_option linter.unusedVariables false
set_option linter.unusedSimpArgs false
def floats_Round.j0 : Nat → Int → Bool → Int → Int → Bool → Bool → Option (Int × Int)
 | 0, _, _, _, _, _, _ => none
 | k + 1, x0, x1, x2, x3, x4, x21 => if x21 = true then (some (0, 1)) else ((floats_of.f x0).bind fun bt120 => ((ff_round.f k bt120.1 bt120.2 x1 x2 x3 x4).bind fun t122 => (some (t122, 0))))
def floats_Round.f (k : Nat) (a0 : Int) (a1 : Bool) (a2 : Int) (a3 : Int) (a4 : Bool) : Option (Int × Int) := (floats_of.f a0).bind fun bt117 => ((ff_none.f bt117.1 bt117.2).bind fun t119 => (if t119 = true then (floats_Round.j0 k a0 a1 a2 a3 a4 true) else (if a4 = true then (floats_Round.j0 k a0 a1 a2 a3 a4 (decide (a2 < 288230376151711744))) else (floats_Round.j0 k a0 a1 a2 a3 a4 false))))
theorem floats_Round.mono_l : ∀ k, (∀ y0 y1 y2 y3 y4 y5, LeO (floats_Round.j0 k y0 y1 y2 y3 y4 y5) (floats_Round.j0 (k + 1) y0 y1 y2 y3 y4 y5)) := by
 intro k
 induction k with
 | zero => exact fun _ _ _ _ _ _ r h => by simp [floats_Round.j0] at h
 | succ k ih =>
  have ih0 := ih
  ·intro y0 y1 y2 y3 y4 y5
   unfold floats_Round.j0
   repeat' first
   | (with_reducible exact ih0 _ _ _ _ _ _)
   | (with_reducible exact ff_round.mono _ _ _ _ _ _ _)
   | (with_reducible exact LeO.refl _)
   | (with_reducible exact LeO.none _)
   | (with_reducible refine LeO.ite ?_ ?_)
   | (with_reducible refine LeO.bind ?_ (fun _ => ?_))
   | exact ih0 _ _ _ _ _ _
   | exact ff_round.mono _ _ _ _ _ _ _
   | exact LeO.none _
   | refine LeO.ite ?_ ?_
   | refine LeO.bind ?_ (fun _ => ?_)
theorem floats_Round.mono : ∀ a0 a1 a2 a3 a4 k, LeO (floats_Round.f k a0 a1 a2 a3 a4) (floats_Round.f (k + 1) a0 a1 a2 a3 a4) := by
 intro a0 a1 a2 a3 a4 k
 have ih0 := floats_Round.mono_l k
 unfold floats_Round.f
 repeat' first
   | (with_reducible exact ih0 _ _ _ _ _ _)
   | (with_reducible exact ff_round.mono _ _ _ _ _ _ _)
   | (with_reducible exact LeO.refl _)
   | (with_reducible exact LeO.none _)
   | (with_reducible refine LeO.ite ?_ ?_)
   | (with_reducible refine LeO.bind ?_ (fun _ => ?_))
   | exact ih0 _ _ _ _ _ _
   | exact ff_round.mono _ _ _ _ _ _ _
   | exact LeO.none _
   | refine LeO.ite ?_ ?_
   | refine LeO.bind ?_ (fun _ => ?_)
set_option maxHeartbeats 8000000 in
set_option maxRecDepth 100000 in
theorem floats_Round.calls (k : Nat) (a0 : Int) (a1 : Bool) (a2 : Int) (a3 : Int) (a4 : Bool) (r1 : Int) (r2 : Int) (w : World) (h : floats_Round.f k a0 a1 a2 a3 a4 = some (r1, r2)) :
  Calls Try.prog 17 #[.int .i64 a0, .bool a1, .int .u64 a2, .int .i64 a3, .bool a4] w fun e w' => e = .returned (.tuple #[.int .u64 r1, .int .i64 r2]) ∧ Below w.heap.size w w' := by
 have HB := As0.mk (Below.refl w.heap.size w)
 have H : ((floats_of.f a0).bind fun bt117 => ((ff_none.f bt117.1 bt117.2).bind fun t119 => (if t119 = true then (floats_Round.j0 k a0 a1 a2 a3 a4 true) else (if a4 = true then (floats_Round.j0 k a0 a1 a2 a3 a4 (decide (a2 < 288230376151711744))) else (floats_Round.j0 k a0 a1 a2 a3 a4 false))))) = some (r1, r2) := h
 clear h
 have HC6 := As0.mk H
 clear H
 go_enter Try.func17, Try.ntmps17
 go_upto_region 1 with (fail)
 go_cut [21] (fun v21 wc => ∃ (kq : Nat) (x21_5 : Bool), v21 = .bool x21_5 ∧ As0 (floats_Round.j0 kq a0 a1 a2 a3 a4 x21_5 = some (r1, r2)) ∧ As0 (kq ≤ k) ∧ As0 (Below w.heap.size w wc))
 case first =>
  have H := HC6.out
  clear HC6
  replace H := zob H
  obtain ⟨⟨t117, t118⟩, A70, H⟩ := H
  replace H : ((ff_none.f t117 t118).bind fun t119 => (if t119 = true then (floats_Round.j0 k a0 a1 a2 a3 a4 true) else (if a4 = true then (floats_Round.j0 k a0 a1 a2 a3 a4 (decide (a2 < 288230376151711744))) else (floats_Round.j0 k a0 a1 a2 a3 a4 false)))) = some (r1, r2) := H
  have A7 := As0.mk A70
  clear A70
  replace H := zob H
  obtain ⟨t119, A80, H⟩ := H
  replace H : (if t119 = true then (floats_Round.j0 k a0 a1 a2 a3 a4 true) else (if a4 = true then (floats_Round.j0 k a0 a1 a2 a3 a4 (decide (a2 < 288230376151711744))) else (floats_Round.j0 k a0 a1 a2 a3 a4 false))) = some (r1, r2) := H
  have A8 := As0.mk A80
  clear A80
  by_cases c9 : t119 = true
  ·subst c9
   have H1 : (floats_Round.j0 k a0 a1 a2 a3 a4 true) = some (r1, r2) := by rw [if_pos rfl] at H; exact H
   clear H
   have H := H1
   clear H1
   have H' := As0.mk H
   clear H
   go_wp2_with (first | ((with_reducible refine gcl (f := 31) rfl ?_); refine goesL_ (some 13) rfl rfl Try.func31 (by kernel_rfl) rfl #[.int .i64 a0] rfl (by (try simp only [zmt, zmc, zmn]); first | done | rfl) ?_; (with_reducible refine (floats_of.calls a0 t117 t118 _ A7.out).mono ?_); rintro e w10 ⟨rfl, hb⟩; refine ⟨_, rfl, ?_⟩; have n0_ := As0.mk (bst (by repeat (first | (with_reducible first | exact HB.out | apply bal | apply pwB_ | apply bd1) | exact HB.out)) hb); clear HB; have HB := n0_; clear n0_; (try clear hb); (try clear hb2); (try clear hk); (try clear hi)) | ((with_reducible refine gcl (f := 32) rfl ?_); refine goesL_ (some 14) rfl rfl Try.func32 (by kernel_rfl) rfl #[.agg #[.int .i64 t117, .int .i64 t118]] rfl (by (try simp only [zmt, zmc, zmn]); first | done | rfl) ?_; (with_reducible refine (ff_none.calls t117 t118 true _ A8.out).mono ?_); rintro e w11 ⟨rfl, hb⟩; refine ⟨_, rfl, ?_⟩; have n0_ := As0.mk (bst (by repeat (first | (with_reducible first | exact HB.out | apply bal | apply pwB_ | apply bd1) | exact HB.out)) hb); clear HB; have HB := n0_; clear n0_; (try clear hb); (try clear hb2); (try clear hk); (try clear hi)))
   go_meet
   case rel => exact ⟨_, (true), (by first | rfl | (simp; done) | (simp [*]; done)), H', ⟨by first | omega | exact Nat.le_refl _⟩, ⟨by repeat (first | (with_reducible first | exact HB.out | apply bal | apply pwB_ | apply bd1) | exact HB.out)⟩⟩
  ·replace c9 := Bool.eq_false_iff.mpr c9
   subst c9
   have H1 : (if a4 = true then (floats_Round.j0 k a0 a1 a2 a3 a4 (decide (a2 < 288230376151711744))) else (floats_Round.j0 k a0 a1 a2 a3 a4 false)) = some (r1, r2) := by rw [if_neg (show ¬ (false = true) by decide)] at H; exact H
   clear H
   have H := H1
   clear H1
   by_cases c12 : a4 = true
   ·subst c12
    have H1 : (floats_Round.j0 k a0 a1 a2 a3 true (decide (a2 < 288230376151711744))) = some (r1, r2) := by rw [if_pos rfl] at H; exact H
    clear H
    have H := H1
    clear H1
    have H' := As0.mk H
    clear H
    go_wp2_with (first | ((with_reducible refine gcl (f := 31) rfl ?_); refine goesL_ (some 13) rfl rfl Try.func31 (by kernel_rfl) rfl #[.int .i64 a0] rfl (by (try simp only [zmt, zmc, zmn]); first | done | rfl) ?_; (with_reducible refine (floats_of.calls a0 t117 t118 _ A7.out).mono ?_); rintro e w13 ⟨rfl, hb⟩; refine ⟨_, rfl, ?_⟩; have n0_ := As0.mk (bst (by repeat (first | (with_reducible first | exact HB.out | apply bal | apply pwB_ | apply bd1) | exact HB.out)) hb); clear HB; have HB := n0_; clear n0_; (try clear hb); (try clear hb2); (try clear hk); (try clear hi)) | ((with_reducible refine gcl (f := 32) rfl ?_); refine goesL_ (some 14) rfl rfl Try.func32 (by kernel_rfl) rfl #[.agg #[.int .i64 t117, .int .i64 t118]] rfl (by (try simp only [zmt, zmc, zmn]); first | done | rfl) ?_; (with_reducible refine (ff_none.calls t117 t118 false _ A8.out).mono ?_); rintro e w14 ⟨rfl, hb⟩; refine ⟨_, rfl, ?_⟩; have n0_ := As0.mk (bst (by repeat (first | (with_reducible first | exact HB.out | apply bal | apply pwB_ | apply bd1) | exact HB.out)) hb); clear HB; have HB := n0_; clear n0_; (try clear hb); (try clear hb2); (try clear hk); (try clear hi)))
    go_meet
    case rel => exact ⟨_, (decide (a2 < 288230376151711744)), (by first | rfl | (simp; done) | (simp [*]; done)), H', ⟨by first | omega | exact Nat.le_refl _⟩, ⟨by repeat (first | (with_reducible first | exact HB.out | apply bal | apply pwB_ | apply bd1) | exact HB.out)⟩⟩
   ·replace c12 := Bool.eq_false_iff.mpr c12
    subst c12
    have H1 : (floats_Round.j0 k a0 a1 a2 a3 false false) = some (r1, r2) := by rw [if_neg (show ¬ (false = true) by decide)] at H; exact H
    clear H
    have H := H1
    clear H1
    have H' := As0.mk H
    clear H
    go_wp2_with (first | ((with_reducible refine gcl (f := 31) rfl ?_); refine goesL_ (some 13) rfl rfl Try.func31 (by kernel_rfl) rfl #[.int .i64 a0] rfl (by (try simp only [zmt, zmc, zmn]); first | done | rfl) ?_; (with_reducible refine (floats_of.calls a0 t117 t118 _ A7.out).mono ?_); rintro e w15 ⟨rfl, hb⟩; refine ⟨_, rfl, ?_⟩; have n0_ := As0.mk (bst (by repeat (first | (with_reducible first | exact HB.out | apply bal | apply pwB_ | apply bd1) | exact HB.out)) hb); clear HB; have HB := n0_; clear n0_; (try clear hb); (try clear hb2); (try clear hk); (try clear hi)) | ((with_reducible refine gcl (f := 32) rfl ?_); refine goesL_ (some 14) rfl rfl Try.func32 (by kernel_rfl) rfl #[.agg #[.int .i64 t117, .int .i64 t118]] rfl (by (try simp only [zmt, zmc, zmn]); first | done | rfl) ?_; (with_reducible refine (ff_none.calls t117 t118 false _ A8.out).mono ?_); rintro e w16 ⟨rfl, hb⟩; refine ⟨_, rfl, ?_⟩; have n0_ := As0.mk (bst (by repeat (first | (with_reducible first | exact HB.out | apply bal | apply pwB_ | apply bd1) | exact HB.out)) hb); clear HB; have HB := n0_; clear n0_; (try clear hb); (try clear hb2); (try clear hk); (try clear hi)))
    go_meet
    case rel => exact ⟨_, (false), (by first | rfl | (simp; done) | (simp [*]; done)), H', ⟨by first | omega | exact Nat.le_refl _⟩, ⟨by repeat (first | (with_reducible first | exact HB.out | apply bal | apply pwB_ | apply bd1) | exact HB.out)⟩⟩
 case rest =>
  clear HC6
  try clear c1
  try clear p2
  try clear c3
  try clear c9
  try clear c12
  obtain ⟨kq, x21_5, rfl, HA, HJ5, HB⟩ := hcut
  cases kq with
  | zero => exact absurd HA.out (by simp [floats_Round.j0])
  | succ kj5 =>
   have H := HA.out
   clear HA
   simp only [floats_Round.j0] at H
   by_cases c17 : x21_5 = true
   ·subst c17
    have H1 : (some (0, 1)) = some (r1, r2) := by rw [if_pos rfl] at H; exact H
    clear H
    have H := H1
    clear H1
    simp only [Option.some.injEq, Prod.mk.injEq] at H
    obtain ⟨rfl, rfl⟩ := H
    go_wp2
    go_ret2
    exact ⟨by first | rfl | (simp [*] <;> rfl), by repeat (first | (with_reducible first | exact HB.out | apply bal | apply pwB_ | apply bd1) | exact HB.out)⟩
   ·replace c17 := Bool.eq_false_iff.mpr c17
    subst c17
    have H1 : ((floats_of.f a0).bind fun bt120 => ((ff_round.f kj5 bt120.1 bt120.2 a1 a2 a3 a4).bind fun t122 => (some (t122, 0)))) = some (r1, r2) := by rw [if_neg (show ¬ (false = true) by decide)] at H; exact H
    clear H
    have H := H1
    clear H1
    replace H := zob H
    obtain ⟨⟨t120, t121⟩, A180, H⟩ := H
    replace H : ((ff_round.f kj5 t120 t121 a1 a2 a3 a4).bind fun t122 => (some (t122, 0))) = some (r1, r2) := H
    have A18 := As0.mk A180
    clear A180
    replace H := zob H
    obtain ⟨t122, A190, H⟩ := H
    replace H : (some (t122, 0)) = some (r1, r2) := H
    have A19 := As0.mk A190
    clear A190
    simp only [Option.some.injEq, Prod.mk.injEq] at H
    obtain ⟨rfl, rfl⟩ := H
    go_wp2_with (first | ((with_reducible refine gcl (f := 31) rfl ?_); refine goesL_ (some 23) rfl rfl Try.func31 (by kernel_rfl) rfl #[.int .i64 a0] rfl (by (try simp only [zmt, zmc, zmn]); first | done | rfl) ?_; (with_reducible refine (floats_of.calls a0 t120 t121 _ A18.out).mono ?_); rintro e w20 ⟨rfl, hb⟩; refine ⟨_, rfl, ?_⟩; have n0_ := As0.mk (bst (by repeat (first | (with_reducible first | exact HB.out | apply bal | apply pwB_ | apply bd1) | exact HB.out)) hb); clear HB; have HB := n0_; clear n0_; (try clear hb); (try clear hb2); (try clear hk); (try clear hi)) | ((with_reducible refine gcl (f := 33) rfl ?_); refine goesL_ (some 28) rfl rfl Try.func33 (by kernel_rfl) rfl #[.agg #[.int .i64 t120, .int .i64 t121], .bool a1, .int .u64 a2, .int .i64 a3, .bool a4] rfl (by (try simp only [zmt, zmc, zmn]); first | done | rfl) ?_; (with_reducible refine (ff_round.calls kj5 t120 t121 a1 a2 a3 a4 t122 _ A19.out).mono ?_); rintro e w21 ⟨rfl, hb⟩; refine ⟨_, rfl, ?_⟩; have n0_ := As0.mk (bst (by repeat (first | (with_reducible first | exact HB.out | apply bal | apply pwB_ | apply bd1) | exact HB.out)) hb); clear HB; have HB := n0_; clear n0_; (try clear hb); (try clear hb2); (try clear hk); (try clear hi)))
    go_ret2
    exact ⟨by first | rfl | (simp [*] <;> rfl), by repeat (first | (with_reducible first | exact HB.out | apply bal | apply pwB_ | apply bd1) | exact HB.out)⟩
def ff_cut.f (a0_0 : Int) (a0_1 : Int) (a1 : Int) : Option (Int) := (ff_sign.f a0_0 a0_1).bind fun t124 => (some (Go.bits .and .u64 a1 (IntKind.u64.wrap ((IntKind.u64.wrap (t124 * 2)) - 1))))
set_option maxHeartbeats 8000000 in
set_option maxRecDepth 100000 in
theorem ff_cut.calls (a0_0 : Int) (a0_1 : Int) (a1 : Int) (r : Int) (w : World) (h : ff_cut.f a0_0 a0_1 a1 = some r) :
  Calls Try.prog 36 #[.agg #[.int .i64 a0_0, .int .i64 a0_1], .int .u64 a1] w fun e w' => e = .returned (.int .u64 r) ∧ Below w.heap.size w w' := by
 have hu43 := Try.underlying43
 have HB := As0.mk (Below.refl w.heap.size w)
 have H : ((ff_sign.f a0_0 a0_1).bind fun t124 => (some (Go.bits .and .u64 a1 (IntKind.u64.wrap ((IntKind.u64.wrap (t124 * 2)) - 1))))) = some r := h
 clear h
 replace H := zob H
 obtain ⟨t124, A30, H⟩ := H
 replace H : (some (Go.bits .and .u64 a1 (IntKind.u64.wrap ((IntKind.u64.wrap (t124 * 2)) - 1)))) = some r := H
 have A3 := As0.mk A30
 clear A30
 obtain rfl := Option.some.inj H
 go_enter Try.func36, Try.ntmps36
 go_wp2_with (first | ((with_reducible refine gate_dst (N := 2) rfl ?_); refine box_event ?hg (N := 2) ?hd (cs := #[.int .i64 a0_0, .int .i64 a0_1]) (t := 43) ?hr ?_; (case hd => rfl); (case hg => rfl); (case hr => first | (go_simp; done) | (go_simp; rfl)); intro gb123 hg w4 hbox hb; have n0_ := As0.mk (bst (by repeat (first | (with_reducible first | exact HB.out | apply bal | apply pwB_ | apply bd1) | exact HB.out)) hb); have n1_ := As0.mk (hbox); have n2_ := As0.mk ((by rw [hg]; exact (below_size (by repeat (first | (with_reducible first | exact HB.out | apply bal | apply pwB_ | apply bd1) | exact HB.out))) : w.heap.size ≤ gb123)); have n3_ := As0.mk ((by rw [hg]; exact (below_size (by repeat (first | (with_reducible first | exact HB.out | apply bal | apply pwB_ | apply bd1) | exact HB.out))) : w.heap.size ≤ gb123)); clear HB; have HB := n0_; have BK123 := n1_; have GW123 := n2_; have GE123 := n3_; clear n0_ n1_ n2_ n3_; clear hb hbox hg; have hcz5_0 : w4.cell? ⟨gb123, 0, none⟩ = some (.int .i64 a0_0) := (bce BK123.out 0).trans rfl; have hcz5_1 : w4.cell? ⟨gb123, 1, none⟩ = some (.int .i64 a0_1) := (bce BK123.out 1).trans rfl; have hfz5_0 := bkf BK123.out 0; have hfz5_1 := bkf BK123.out 1) | ((with_reducible refine gcl (f := 43) rfl ?_); refine goesL_ (some 7) rfl rfl Try.func43 (by kernel_rfl) rfl #[.agg #[.int .i64 a0_0, .int .i64 a0_1]] rfl (by (try simp only [zmt, zmc, zmn]); first | done | rfl) ?_; (with_reducible refine (ff_sign.calls a0_0 a0_1 t124 _ A3.out).mono ?_); rintro e w6 ⟨rfl, hb⟩; refine ⟨_, rfl, ?_⟩; have n0_ := As0.mk (bkb (g := gb123) (o := .cells #[.int .i64 a0_0, .int .i64 a0_1] 43 (0, 0)) (by (with_reducible repeat (first | refine bkN ?_ _ | refine bkd ?_ | refine bka ?_ _)); exact BK123.out) hb); have n1_ := As0.mk (bst (by repeat (first | (with_reducible first | exact HB.out | apply bal | apply pwB_ | apply bd1 | refine bse ?_ GE123.out) | exact HB.out)) hb); clear BK123; clear HB; have BK123 := n0_; have HB := n1_; clear n0_ n1_; (try clear hb); (try clear hb2); (try clear hk); (try clear hi)))
 go_ret
 exact ⟨by first | rfl | (simp [*] <;> rfl), by repeat (first | (with_reducible first | exact HB.out | apply bal | apply pwB_ | apply bd1 | refine bse ?_ GE123.out) | exact HB.out)⟩
def ff_size.f (a0_0 : Int) (a0_1 : Int) (a1 : Int) : Option (Int) := (ff_sign.f a0_0 a0_1).bind fun t126 => (some (Go.bits .and .u64 a1 (IntKind.u64.wrap (t126 - 1))))
set_option maxHeartbeats 8000000 in
set_option maxRecDepth 100000 in
theorem ff_size.calls (a0_0 : Int) (a0_1 : Int) (a1 : Int) (r : Int) (w : World) (h : ff_size.f a0_0 a0_1 a1 = some r) :
  Calls Try.prog 40 #[.agg #[.int .i64 a0_0, .int .i64 a0_1], .int .u64 a1] w fun e w' => e = .returned (.int .u64 r) ∧ Below w.heap.size w w' := by
 have hu43 := Try.underlying43
 have HB := As0.mk (Below.refl w.heap.size w)
 have H : ((ff_sign.f a0_0 a0_1).bind fun t126 => (some (Go.bits .and .u64 a1 (IntKind.u64.wrap (t126 - 1))))) = some r := h
 clear h
 replace H := zob H
 obtain ⟨t126, A30, H⟩ := H
 replace H : (some (Go.bits .and .u64 a1 (IntKind.u64.wrap (t126 - 1)))) = some r := H
 have A3 := As0.mk A30
 clear A30
 obtain rfl := Option.some.inj H
 go_enter Try.func40, Try.ntmps40
 go_wp2_with (first | ((with_reducible refine gate_dst (N := 2) rfl ?_); refine box_event ?hg (N := 2) ?hd (cs := #[.int .i64 a0_0, .int .i64 a0_1]) (t := 43) ?hr ?_; (case hd => rfl); (case hg => rfl); (case hr => first | (go_simp; done) | (go_simp; rfl)); intro gb125 hg w4 hbox hb; have n0_ := As0.mk (bst (by repeat (first | (with_reducible first | exact HB.out | apply bal | apply pwB_ | apply bd1) | exact HB.out)) hb); have n1_ := As0.mk (hbox); have n2_ := As0.mk ((by rw [hg]; exact (below_size (by repeat (first | (with_reducible first | exact HB.out | apply bal | apply pwB_ | apply bd1) | exact HB.out))) : w.heap.size ≤ gb125)); have n3_ := As0.mk ((by rw [hg]; exact (below_size (by repeat (first | (with_reducible first | exact HB.out | apply bal | apply pwB_ | apply bd1) | exact HB.out))) : w.heap.size ≤ gb125)); clear HB; have HB := n0_; have BK125 := n1_; have GW125 := n2_; have GE125 := n3_; clear n0_ n1_ n2_ n3_; clear hb hbox hg; have hcz5_0 : w4.cell? ⟨gb125, 0, none⟩ = some (.int .i64 a0_0) := (bce BK125.out 0).trans rfl; have hcz5_1 : w4.cell? ⟨gb125, 1, none⟩ = some (.int .i64 a0_1) := (bce BK125.out 1).trans rfl; have hfz5_0 := bkf BK125.out 0; have hfz5_1 := bkf BK125.out 1) | ((with_reducible refine gcl (f := 43) rfl ?_); refine goesL_ (some 7) rfl rfl Try.func43 (by kernel_rfl) rfl #[.agg #[.int .i64 a0_0, .int .i64 a0_1]] rfl (by (try simp only [zmt, zmc, zmn]); first | done | rfl) ?_; (with_reducible refine (ff_sign.calls a0_0 a0_1 t126 _ A3.out).mono ?_); rintro e w6 ⟨rfl, hb⟩; refine ⟨_, rfl, ?_⟩; have n0_ := As0.mk (bkb (g := gb125) (o := .cells #[.int .i64 a0_0, .int .i64 a0_1] 43 (0, 0)) (by (with_reducible repeat (first | refine bkN ?_ _ | refine bkd ?_ | refine bka ?_ _)); exact BK125.out) hb); have n1_ := As0.mk (bst (by repeat (first | (with_reducible first | exact HB.out | apply bal | apply pwB_ | apply bd1 | refine bse ?_ GE125.out) | exact HB.out)) hb); clear BK125; clear HB; have BK125 := n0_; have HB := n1_; clear n0_ n1_; (try clear hb); (try clear hb2); (try clear hk); (try clear hi)))
 go_ret
 exact ⟨by first | rfl | (simp [*] <;> rfl), by repeat (first | (with_reducible first | exact HB.out | apply bal | apply pwB_ | apply bd1 | refine bse ?_ GE125.out) | exact HB.out)⟩
def ff_isNaN.f (a0_0 : Int) (a0_1 : Int) (a1 : Int) : Option (Bool) := (ff_size.f a0_0 a0_1 a1).bind fun t128 => ((ff_infinity.f a0_0 a0_1).bind fun t129 => (some (decide (t128 > t129))))
set_option maxHeartbeats 8000000 in
set_option maxRecDepth 100000 in
theorem ff_isNaN.calls (a0_0 : Int) (a0_1 : Int) (a1 : Int) (r : Bool) (w : World) (h : ff_isNaN.f a0_0 a0_1 a1 = some r) :
  Calls Try.prog 37 #[.agg #[.int .i64 a0_0, .int .i64 a0_1], .int .u64 a1] w fun e w' => e = .returned (.bool r) ∧ Below w.heap.size w w' := by
 have hu43 := Try.underlying43
 have HB := As0.mk (Below.refl w.heap.size w)
 have H : ((ff_size.f a0_0 a0_1 a1).bind fun t128 => ((ff_infinity.f a0_0 a0_1).bind fun t129 => (some (decide (t128 > t129))))) = some r := h
 clear h
 replace H := zob H
 obtain ⟨t128, A30, H⟩ := H
 replace H : ((ff_infinity.f a0_0 a0_1).bind fun t129 => (some (decide (t128 > t129)))) = some r := H
 have A3 := As0.mk A30
 clear A30
 replace H := zob H
 obtain ⟨t129, A40, H⟩ := H
 replace H : (some (decide (t128 > t129))) = some r := H
 have A4 := As0.mk A40
 clear A40
 obtain rfl := Option.some.inj H
 go_enter Try.func37, Try.ntmps37
 try go_wp2_with (first | ((with_reducible refine gate_dst (N := 2) rfl ?_); refine box_event ?hg (N := 2) ?hd (cs := #[.int .i64 a0_0, .int .i64 a0_1]) (t := 43) ?hr ?_; (case hd => rfl); (case hg => rfl); (case hr => first | (go_simp; done) | (go_simp; rfl)); intro gb127 hg w5 hbox hb; have n0_ := As0.mk (bst (by repeat (first | (with_reducible first | exact HB.out | apply bal | apply pwB_ | apply bd1) | exact HB.out)) hb); have n1_ := As0.mk (hbox); have n2_ := As0.mk ((by rw [hg]; exact (below_size (by repeat (first | (with_reducible first | exact HB.out | apply bal | apply pwB_ | apply bd1) | exact HB.out))) : w.heap.size ≤ gb127)); have n3_ := As0.mk ((by rw [hg]; exact (below_size (by repeat (first | (with_reducible first | exact HB.out | apply bal | apply pwB_ | apply bd1) | exact HB.out))) : w.heap.size ≤ gb127)); clear HB; have HB := n0_; have BK127 := n1_; have GW127 := n2_; have GE127 := n3_; clear n0_ n1_ n2_ n3_; clear hb hbox hg))
 have n0_ := As0.mk (bkd BK127.out)
 have n1_ := As0.mk (bd1 HB.out)
 clear BK127
 clear HB
 have BK127 := n0_
 have HB := n1_
 clear n0_ n1_
 refine start_ (n := 7) (S := fun w' => w'.cell? ⟨gb127, 0, none⟩ = some (.int .i64 a0_0) ∧ w'.cell? ⟨gb127, 1, none⟩ = some (.int .i64 a0_1)) (ds := []) #[false, false, false, false, false, false, false] (by kernel_rfl) rfl rfl ⟨(bce BK127.out 0).trans rfl, (bce BK127.out 1).trans rfl⟩ (fun hHeld => ?_)
 generalize w5.drew = w6 at BK127 HB hHeld ⊢
 refine pure_ (i := 1) (N := some 6) (v := ?_) (a' := ?_) #[false, true, false, false, false, false, false] rfl rfl (by kernel_rfl) (fun _ _ _ h => h) (Or.inl ⟨by rfl, ?_⟩) ?_ ?_
 rotate_left
 ·intro w'
  go_simp
  with_reducible rfl
 rotate_left
 ·simp only [Act.put, zsi, zcz, zcs, i64_w, i32_w]
  rfl
 refine take_ (i := 0) (N := some 5) (v := ?_) (a' := ?_) #[true, true, false, false, false, false, false] rfl rfl (by kernel_rfl) (fun _ _ _ h => h) (Or.inl ⟨by rfl, ?_⟩) hHeld ?_ ?_
 rotate_left
 ·rintro w' ⟨s0, s1⟩
  go_simp
  with_reducible rfl
 rotate_left
 ·simp only [Act.put, zsi, zcz, zcs, i64_w, i32_w]
  rfl
 refine take_ (i := 3) (N := some 8) (v := ?_) (a' := ?_) #[true, true, false, true, false, false, false] rfl rfl (by kernel_rfl) (fun _ _ _ h => h) (Or.inl ⟨by rfl, ?_⟩) hHeld ?_ ?_
 rotate_left
 ·rintro w' ⟨s0, s1⟩
  go_simp
  with_reducible rfl
 rotate_left
 ·simp only [Act.put, zsi, zcz, zcs, i64_w, i32_w]
  rfl
 refine one_ (i := 2) (N := some 7) #[true, true, true, true, false, false, false] rfl rfl (by kernel_rfl) (by decide) (fun K hK => ?_)
 refine goes_ Try.func40 (by kernel_rfl) rfl #[.agg #[.int .i64 a0_0, .int .i64 a0_1], .int .u64 a1] (by rfl) rfl rfl (by (try simp only [zmt, zmc, zmn]); first | done | rfl) ?_
 with_reducible refine (ff_size.calls a0_0 a0_1 a1 t128 _ A3.out).mono ?_
 rintro e w7 ⟨rfl, hb⟩
 refine ⟨_, rfl, ?_⟩
 have n0_ := As0.mk (bkb (g := gb127) (o := .cells #[.int .i64 a0_0, .int .i64 a0_1] 43 (0, 0)) (by (with_reducible repeat (first | refine bkN ?_ _ | refine bkd ?_ | refine bka ?_ _)); exact BK127.out) hb)
 have n1_ := As0.mk (bst (by repeat (first | (with_reducible first | exact HB.out | apply bal | apply pwB_ | apply bd1 | refine bse ?_ GE127.out) | exact HB.out)) hb)
 clear BK127
 clear HB
 have BK127 := n0_
 have HB := n1_
 clear n0_ n1_
 (try clear hb)
 (try clear hb2)
 (try clear hk)
 (try clear hi)
 refine hK.out _ _ ⟨(bce BK127.out 0).trans rfl, (bce BK127.out 1).trans rfl⟩ (fun hHeld => ?_)
 clear hK K
 refine norm_ (a' := ?_) ?_ ?_
 rotate_left
 ·show Act.put _ (some 7) _ = _
  simp only [Act.put, zsi, zcz, zcs, i64_w, i32_w]
  rfl
 refine one_ (i := 4) (N := some 9) #[true, true, true, true, true, false, false] rfl rfl (by kernel_rfl) (by decide) (fun K hK => ?_)
 refine goes_ Try.func50 (by kernel_rfl) rfl #[.agg #[.int .i64 a0_0, .int .i64 a0_1]] (by rfl) rfl rfl (by (try simp only [zmt, zmc, zmn]); first | done | rfl) ?_
 with_reducible refine (ff_infinity.calls a0_0 a0_1 t129 _ A4.out).mono ?_
 rintro e w8 ⟨rfl, hb⟩
 refine ⟨_, rfl, ?_⟩
 have n0_ := As0.mk (bkb (g := gb127) (o := .cells #[.int .i64 a0_0, .int .i64 a0_1] 43 (0, 0)) (by (with_reducible repeat (first | refine bkN ?_ _ | refine bkd ?_ | refine bka ?_ _)); exact BK127.out) hb)
 have n1_ := As0.mk (bst (by repeat (first | (with_reducible first | exact HB.out | apply bal | apply pwB_ | apply bd1 | refine bse ?_ GE127.out) | exact HB.out)) hb)
 clear BK127
 clear HB
 have BK127 := n0_
 have HB := n1_
 clear n0_ n1_
 (try clear hb)
 (try clear hb2)
 (try clear hk)
 (try clear hi)
 refine hK.out _ _ ⟨(bce BK127.out 0).trans rfl, (bce BK127.out 1).trans rfl⟩ (fun hHeld => ?_)
 clear hK K
 refine norm_ (a' := ?_) ?_ ?_
 rotate_left
 ·show Act.put _ (some 9) _ = _
  simp only [Act.put, zsi, zcz, zcs, i64_w, i32_w]
  rfl
 refine pure_ (i := 5) (N := some 10) (v := ?_) (a' := ?_) #[true, true, true, true, true, true, false] rfl rfl (by kernel_rfl) (fun _ _ _ h => h) (Or.inl ⟨by rfl, ?_⟩) ?_ ?_
 rotate_left
 ·intro w'
  go_simp
  with_reducible rfl
 rotate_left
 ·simp only [Act.put, zsi, zcz, zcs, i64_w, i32_w]
  rfl
 refine pure_ (i := 6) (N := some 4) (v := ?_) (a' := ?_) #[true, true, true, true, true, true, true] rfl rfl (by kernel_rfl) (fun _ _ _ h => h) (Or.inl ⟨by rfl, ?_⟩) ?_ ?_
 rotate_left
 ·intro w'
  go_simp
  with_reducible rfl
 rotate_left
 ·simp only [Act.put, zsi, zcz, zcs, i64_w, i32_w]
  rfl
 refine done_ (by kernel_rfl) ?_
 try go_wp2
 go_ret
 exact ⟨by first | rfl | (simp [*] <;> rfl), by repeat (first | (with_reducible first | exact HB.out | apply bal | apply pwB_ | apply bd1 | refine bse ?_ GE127.out) | exact HB.out)⟩
def ff_neg.f (a0_0 : Int) (a0_1 : Int) (a1 : Int) : Option (Bool) := (ff_sign.f a0_0 a0_1).bind fun t131 => (some ((Go.bits .and .u64 a1 t131) != 0))
set_option maxHeartbeats 8000000 in
set_option maxRecDepth 100000 in
theorem ff_neg.calls (a0_0 : Int) (a0_1 : Int) (a1 : Int) (r : Bool) (w : World) (h : ff_neg.f a0_0 a0_1 a1 = some r) :
  Calls Try.prog 39 #[.agg #[.int .i64 a0_0, .int .i64 a0_1], .int .u64 a1] w fun e w' => e = .returned (.bool r) ∧ Below w.heap.size w w' := by
 have hu43 := Try.underlying43
 have HB := As0.mk (Below.refl w.heap.size w)
 have H : ((ff_sign.f a0_0 a0_1).bind fun t131 => (some ((Go.bits .and .u64 a1 t131) != 0))) = some r := h
 clear h
 replace H := zob H
 obtain ⟨t131, A30, H⟩ := H
 replace H : (some ((Go.bits .and .u64 a1 t131) != 0)) = some r := H
 have A3 := As0.mk A30
 clear A30
 obtain rfl := Option.some.inj H
 go_enter Try.func39, Try.ntmps39
 go_wp2_with (first | ((with_reducible refine gate_dst (N := 2) rfl ?_); refine box_event ?hg (N := 2) ?hd (cs := #[.int .i64 a0_0, .int .i64 a0_1]) (t := 43) ?hr ?_; (case hd => rfl); (case hg => rfl); (case hr => first | (go_simp; done) | (go_simp; rfl)); intro gb130 hg w4 hbox hb; have n0_ := As0.mk (bst (by repeat (first | (with_reducible first | exact HB.out | apply bal | apply pwB_ | apply bd1) | exact HB.out)) hb); have n1_ := As0.mk (hbox); have n2_ := As0.mk ((by rw [hg]; exact (below_size (by repeat (first | (with_reducible first | exact HB.out | apply bal | apply pwB_ | apply bd1) | exact HB.out))) : w.heap.size ≤ gb130)); have n3_ := As0.mk ((by rw [hg]; exact (below_size (by repeat (first | (with_reducible first | exact HB.out | apply bal | apply pwB_ | apply bd1) | exact HB.out))) : w.heap.size ≤ gb130)); clear HB; have HB := n0_; have BK130 := n1_; have GW130 := n2_; have GE130 := n3_; clear n0_ n1_ n2_ n3_; clear hb hbox hg; have hcz5_0 : w4.cell? ⟨gb130, 0, none⟩ = some (.int .i64 a0_0) := (bce BK130.out 0).trans rfl; have hcz5_1 : w4.cell? ⟨gb130, 1, none⟩ = some (.int .i64 a0_1) := (bce BK130.out 1).trans rfl; have hfz5_0 := bkf BK130.out 0; have hfz5_1 := bkf BK130.out 1) | ((with_reducible refine gcl (f := 43) rfl ?_); refine goesL_ (some 7) rfl rfl Try.func43 (by kernel_rfl) rfl #[.agg #[.int .i64 a0_0, .int .i64 a0_1]] rfl (by (try simp only [zmt, zmc, zmn]); first | done | rfl) ?_; (with_reducible refine (ff_sign.calls a0_0 a0_1 t131 _ A3.out).mono ?_); rintro e w6 ⟨rfl, hb⟩; refine ⟨_, rfl, ?_⟩; have n0_ := As0.mk (bkb (g := gb130) (o := .cells #[.int .i64 a0_0, .int .i64 a0_1] 43 (0, 0)) (by (with_reducible repeat (first | refine bkN ?_ _ | refine bkd ?_ | refine bka ?_ _)); exact BK130.out) hb); have n1_ := As0.mk (bst (by repeat (first | (with_reducible first | exact HB.out | apply bal | apply pwB_ | apply bd1 | refine bse ?_ GE130.out) | exact HB.out)) hb); clear BK130; clear HB; have BK130 := n0_; have HB := n1_; clear n0_ n1_; (try clear hb); (try clear hb2); (try clear hk); (try clear hi)))
 go_ret
 exact ⟨by first | rfl | (simp [*] <;> rfl), by repeat (first | (with_reducible first | exact HB.out | apply bal | apply pwB_ | apply bd1 | refine bse ?_ GE130.out) | exact HB.out)⟩
end Go.Proofs.Ytjfmomogidgbpaa.PFl
namespace Go.Proofs.Ytjfmomogidgbpaa.PFl
open Go.RowKit Go.Proofs.YtjfmomogidgbpaaW.PrintWords Go.Proofs.YtjfmomogidgbpaaW.PrintLast Go.Proofs.YtjfmomogidgbpaaW.PrintMore
attribute [local go_sem] max2_int min2_int max_two min_two max_three min_three max_four min_four
set_option linter.unusedVariables false
set_option linter.unusedSimpArgs false
def ff_less.f (a0_0 : Int) (a0_1 : Int) (a1 : Int) (a2 : Int) : Option (Bool) := (ff_size.f a0_0 a0_1 a1).bind fun t133 => ((ff_size.f a0_0 a0_1 a2).bind fun t134 => (if (Go.bits .or .u64 t133 t134) = 0 then (some false) else ((ff_neg.f a0_0 a0_1 a1).bind fun t135 => ((ff_neg.f a0_0 a0_1 a2).bind fun t136 => (if (t135 != t136) = true then ((ff_neg.f a0_0 a0_1 a1).bind fun t137 => (some t137)) else ((ff_neg.f a0_0 a0_1 a1).bind fun t138 => (if t138 = true then (some (decide (t133 > t134))) else (some (decide (t133 < t134))))))))))
def ff_less.T1 : Bool × List (List Nat × List Nat) := (true, [([], []), ([], []), ([0, 1], [0, 1]), ([], []), ([], []), ([3, 4, 2], [3, 4]), ([2, 5, 0, 1, 2], [2]), ([5, 6, 0, 1, 2, 3, 4, 5, 6], [5])])
def ff_less.B1 : List Nat := [0, 0, 3, 0, 0, 31, 63, 127]
theorem ff_less.tab1 : rtab .any (opsOf Try.f41 1) = ff_less.T1 := by kernel_rfl
theorem ff_less.bits1 : waitsOk ff_less.T1.2 ff_less.B1 = true := by kernel_rfl
def ff_less.T4 : Bool × List (List Nat × List Nat) := (true, [([], []), ([], []), ([0, 1], [0, 1]), ([], []), ([], []), ([3, 4, 2], [3, 4]), ([2, 5], [2, 5]), ([6, 5], [6])])
def ff_less.B4 : List Nat := [0, 0, 3, 0, 0, 31, 63, 127]
theorem ff_less.tab4 : rtab .any (opsOf Try.f41 4) = ff_less.T4 := by kernel_rfl
theorem ff_less.bits4 : waitsOk ff_less.T4.2 ff_less.B4 = true := by kernel_rfl
set_option maxHeartbeats 8000000 in
set_option maxRecDepth 100000 in
theorem ff_less.calls (a0_0 : Int) (a0_1 : Int) (a1 : Int) (a2 : Int) (r : Bool) (w : World) (h : ff_less.f a0_0 a0_1 a1 a2 = some r) :
  Calls Try.prog 41 #[.agg #[.int .i64 a0_0, .int .i64 a0_1], .int .u64 a1, .int .u64 a2] w fun e w' => e = .returned (.bool r) ∧ Below w.heap.size w w' := by
 have hu43 := Try.underlying43
 have HB := As0.mk (Below.refl w.heap.size w)
 have H : ((ff_size.f a0_0 a0_1 a1).bind fun t133 => ((ff_size.f a0_0 a0_1 a2).bind fun t134 => (if (Go.bits .or .u64 t133 t134) = 0 then (some false) else ((ff_neg.f a0_0 a0_1 a1).bind fun t135 => ((ff_neg.f a0_0 a0_1 a2).bind fun t136 => (if (t135 != t136) = true then ((ff_neg.f a0_0 a0_1 a1).bind fun t137 => (some t137)) else ((ff_neg.f a0_0 a0_1 a1).bind fun t138 => (if t138 = true then (some (decide (t133 > t134))) else (some (decide (t133 < t134))))))))))) = some r := h
 clear h
 replace H := zob H
 obtain ⟨t133, A40, H⟩ := H
 replace H : ((ff_size.f a0_0 a0_1 a2).bind fun t134 => (if (Go.bits .or .u64 t133 t134) = 0 then (some false) else ((ff_neg.f a0_0 a0_1 a1).bind fun t135 => ((ff_neg.f a0_0 a0_1 a2).bind fun t136 => (if (t135 != t136) = true then ((ff_neg.f a0_0 a0_1 a1).bind fun t137 => (some t137)) else ((ff_neg.f a0_0 a0_1 a1).bind fun t138 => (if t138 = true then (some (decide (t133 > t134))) else (some (decide (t133 < t134)))))))))) = some r := H
 have A4 := As0.mk A40
 clear A40
 replace H := zob H
 obtain ⟨t134, A50, H⟩ := H
 replace H : (if (Go.bits .or .u64 t133 t134) = 0 then (some false) else ((ff_neg.f a0_0 a0_1 a1).bind fun t135 => ((ff_neg.f a0_0 a0_1 a2).bind fun t136 => (if (t135 != t136) = true then ((ff_neg.f a0_0 a0_1 a1).bind fun t137 => (some t137)) else ((ff_neg.f a0_0 a0_1 a1).bind fun t138 => (if t138 = true then (some (decide (t133 > t134))) else (some (decide (t133 < t134))))))))) = some r := H
 have A5 := As0.mk A50
 clear A50
 by_cases c6 : (Go.bits .or .u64 t133 t134) = 0
 ·rw [if_pos c6] at H
  have c6b0 : ((Go.bits .or .u64 t133 t134) == 0) = true := beq_iff_eq.mpr c6
  have c6b1 : ((Go.bits .or .u64 t133 t134) != 0) = false := bne_eq_false_iff_eq.mpr c6
  clear c6
  obtain rfl := Option.some.inj H
  go_enter Try.func41, Try.ntmps41
  try go_wp2_with (first | ((with_reducible refine gate_dst (N := 3) rfl ?_); refine box_event ?hg (N := 3) ?hd (cs := #[.int .i64 a0_0, .int .i64 a0_1]) (t := 43) ?hr ?_; (case hd => rfl); (case hg => rfl); (case hr => first | (go_simp; done) | (go_simp; rfl)); intro gb132 hg w7 hbox hb; have n0_ := As0.mk (bst (by repeat (first | (with_reducible first | exact HB.out | apply bal | apply pwB_ | apply bd1) | exact HB.out)) hb); have n1_ := As0.mk (hbox); have n2_ := As0.mk ((by rw [hg]; exact (below_size (by repeat (first | (with_reducible first | exact HB.out | apply bal | apply pwB_ | apply bd1) | exact HB.out))) : w.heap.size ≤ gb132)); have n3_ := As0.mk ((by rw [hg]; exact (below_size (by repeat (first | (with_reducible first | exact HB.out | apply bal | apply pwB_ | apply bd1) | exact HB.out))) : w.heap.size ≤ gb132)); clear HB; have HB := n0_; have BK132 := n1_; have GW132 := n2_; have GE132 := n3_; clear n0_ n1_ n2_ n3_; clear hb hbox hg))
  have n0_ := As0.mk (bkd BK132.out)
  have n1_ := As0.mk (bd1 HB.out)
  clear BK132
  clear HB
  have BK132 := n0_
  have HB := n1_
  clear n0_ n1_
  refine start_ (n := 8) (S := fun w' => w'.cell? ⟨gb132, 0, none⟩ = some (.int .i64 a0_0) ∧ w'.cell? ⟨gb132, 1, none⟩ = some (.int .i64 a0_1)) (ds := []) #[false, false, false, false, false, false, false, false] (by kernel_rfl) rfl rfl ⟨(bce BK132.out 0).trans rfl, (bce BK132.out 1).trans rfl⟩ (fun hHeld => ?_); refine with_tabW ff_less.tab1 ff_less.bits1 (fun HT_ HW_ => ?_)
  generalize w7.drew = w8 at BK132 HB hHeld ⊢
  refine pure_ (i := 1) (N := some 10) (v := ?_) (a' := ?_) #[false, true, false, false, false, false, false, false] rfl rfl (any_of HT_.out (by kernel_rfl)) (fun _ _ _ h => h) (Or.inl ⟨by rfl, ?_⟩) ?_ ?_
  rotate_left
  ·intro w'
   go_simp
   with_reducible rfl
  rotate_left
  ·simp only [Act.put, zsi, zcz, zcs, i64_w, i32_w]
   rfl
  refine pure_ (i := 4) (N := some 13) (v := ?_) (a' := ?_) #[false, true, false, false, true, false, false, false] rfl rfl (any_of HT_.out (by kernel_rfl)) (fun _ _ _ h => h) (Or.inl ⟨by rfl, ?_⟩) ?_ ?_
  rotate_left
  ·intro w'
   go_simp
   with_reducible rfl
  rotate_left
  ·simp only [Act.put, zsi, zcz, zcs, i64_w, i32_w]
   rfl
  refine take_ (i := 0) (N := some 9) (v := ?_) (a' := ?_) #[true, true, false, false, true, false, false, false] rfl rfl (take_ofW HT_.out HW_.out (by kernel_rfl)) (fun _ _ _ h => h) (Or.inl ⟨by rfl, ?_⟩) hHeld ?_ ?_
  rotate_left
  ·rintro w' ⟨s0, s1⟩
   go_simp
   with_reducible rfl
  rotate_left
  ·simp only [Act.put, zsi, zcz, zcs, i64_w, i32_w]
   rfl
  refine take_ (i := 3) (N := some 12) (v := ?_) (a' := ?_) #[true, true, false, true, true, false, false, false] rfl rfl (take_ofW HT_.out HW_.out (by kernel_rfl)) (fun _ _ _ h => h) (Or.inl ⟨by rfl, ?_⟩) hHeld ?_ ?_
  rotate_left
  ·rintro w' ⟨s0, s1⟩
   go_simp
   with_reducible rfl
  rotate_left
  ·simp only [Act.put, zsi, zcz, zcs, i64_w, i32_w]
   rfl
  refine one_ (i := 2) (N := some 11) #[true, true, true, true, true, false, false, false] rfl rfl (one_of HT_.out (by kernel_rfl)) (by decide) (fun K hK => ?_)
  refine goes_ Try.func40 (by kernel_rfl) rfl #[.agg #[.int .i64 a0_0, .int .i64 a0_1], .int .u64 a1] (by rfl) rfl rfl (by (try simp only [zmt, zmc, zmn]); first | done | rfl) ?_
  with_reducible refine (ff_size.calls a0_0 a0_1 a1 t133 _ A4.out).mono ?_
  rintro e w9 ⟨rfl, hb⟩
  refine ⟨_, rfl, ?_⟩
  have n0_ := As0.mk (bkb (g := gb132) (o := .cells #[.int .i64 a0_0, .int .i64 a0_1] 43 (0, 0)) (by (with_reducible repeat (first | refine bkN ?_ _ | refine bkd ?_ | refine bka ?_ _)); exact BK132.out) hb)
  have n1_ := As0.mk (bst (by repeat (first | (with_reducible first | exact HB.out | apply bal | apply pwB_ | apply bd1 | refine bse ?_ GE132.out) | exact HB.out)) hb)
  clear BK132
  clear HB
  have BK132 := n0_
  have HB := n1_
  clear n0_ n1_
  (try clear hb)
  (try clear hb2)
  (try clear hk)
  (try clear hi)
  refine hK.out _ _ ⟨(bce BK132.out 0).trans rfl, (bce BK132.out 1).trans rfl⟩ (fun hHeld => ?_)
  clear hK K
  refine norm_ (a' := ?_) ?_ ?_
  rotate_left
  ·show Act.put _ (some 11) _ = _
   simp only [Act.put, zsi, zcz, zcs, i64_w, i32_w]
   rfl
  refine one_ (i := 5) (N := some 14) #[true, true, true, true, true, true, false, false] rfl rfl (one_of HT_.out (by kernel_rfl)) (by decide) (fun K hK => ?_)
  refine goes_ Try.func40 (by kernel_rfl) rfl #[.agg #[.int .i64 a0_0, .int .i64 a0_1], .int .u64 a2] (by rfl) rfl rfl (by (try simp only [zmt, zmc, zmn]); first | done | rfl) ?_
  with_reducible refine (ff_size.calls a0_0 a0_1 a2 t134 _ A5.out).mono ?_
  rintro e w10 ⟨rfl, hb⟩
  refine ⟨_, rfl, ?_⟩
  have n0_ := As0.mk (bkb (g := gb132) (o := .cells #[.int .i64 a0_0, .int .i64 a0_1] 43 (0, 0)) (by (with_reducible repeat (first | refine bkN ?_ _ | refine bkd ?_ | refine bka ?_ _)); exact BK132.out) hb)
  have n1_ := As0.mk (bst (by repeat (first | (with_reducible first | exact HB.out | apply bal | apply pwB_ | apply bd1 | refine bse ?_ GE132.out) | exact HB.out)) hb)
  clear BK132
  clear HB
  have BK132 := n0_
  have HB := n1_
  clear n0_ n1_
  (try clear hb)
  (try clear hb2)
  (try clear hk)
  (try clear hi)
  refine hK.out _ _ ⟨(bce BK132.out 0).trans rfl, (bce BK132.out 1).trans rfl⟩ (fun hHeld => ?_)
  clear hK K
  refine norm_ (a' := ?_) ?_ ?_
  rotate_left
  ·show Act.put _ (some 14) _ = _
   simp only [Act.put, zsi, zcz, zcs, i64_w, i32_w]
   rfl
  refine pure_ (i := 6) (N := some 7) (v := ?_) (a' := ?_) #[true, true, true, true, true, true, true, false] rfl rfl (any_of HT_.out (by kernel_rfl)) (fun _ _ _ h => h) (Or.inl ⟨by rfl, ?_⟩) ?_ ?_
  rotate_left
  ·intro w'
   go_simp
   with_reducible rfl
  rotate_left
  ·simp only [Act.put, zsi, zcz, zcs, i64_w, i32_w]
   rfl
  refine pure_ (i := 7) (N := some 8) (v := ?_) (a' := ?_) #[true, true, true, true, true, true, true, true] rfl rfl (any_of HT_.out (by kernel_rfl)) (fun _ _ _ h => h) (Or.inl ⟨by rfl, ?_⟩) ?_ ?_
  rotate_left
  ·intro w'
   go_simp
   with_reducible rfl
  rotate_left
  ·simp only [Act.put, zsi, zcz, zcs, i64_w, i32_w]
   rfl
  refine done_ (done_of HT_.out (by kernel_rfl)) ?_
  try go_wp2
  go_ret
  exact ⟨by first | rfl | (simp [*] <;> rfl), by repeat (first | (with_reducible first | exact HB.out | apply bal | apply pwB_ | apply bd1 | refine bse ?_ GE132.out) | exact HB.out)⟩
 ·rw [if_neg c6] at H
  have c6b0 : ((Go.bits .or .u64 t133 t134) == 0) = false := beq_eq_false_iff_ne.mpr c6
  have c6b1 : ((Go.bits .or .u64 t133 t134) != 0) = true := bne_iff_ne.mpr c6
  replace H := zob H
  obtain ⟨t135, A110, H⟩ := H
  replace H : ((ff_neg.f a0_0 a0_1 a2).bind fun t136 => (if (t135 != t136) = true then ((ff_neg.f a0_0 a0_1 a1).bind fun t137 => (some t137)) else ((ff_neg.f a0_0 a0_1 a1).bind fun t138 => (if t138 = true then (some (decide (t133 > t134))) else (some (decide (t133 < t134))))))) = some r := H
  have A11 := As0.mk A110
  clear A110
  replace H := zob H
  obtain ⟨t136, A120, H⟩ := H
  replace H : (if (t135 != t136) = true then ((ff_neg.f a0_0 a0_1 a1).bind fun t137 => (some t137)) else ((ff_neg.f a0_0 a0_1 a1).bind fun t138 => (if t138 = true then (some (decide (t133 > t134))) else (some (decide (t133 < t134)))))) = some r := H
  have A12 := As0.mk A120
  clear A120
  by_cases c13 : (t135 != t136) = true
  ·rw [if_pos c13] at H
   have c13b0 : (t135 != t136) = true := c13
   (try (have c13b1 : decide (t135 = t136) = false := by simpa using c13))
   (try (have c13b2 : (t135 == t136) = false := by simpa using c13))
   (try (have c13b3 : ¬ (t135 = t136) := by simpa using c13))
   clear c13
   replace H := zob H
   obtain ⟨t137, A140, H⟩ := H
   replace H : (some t137) = some r := H
   have A14 := As0.mk A140
   clear A140
   obtain rfl := Option.some.inj H
   go_enter Try.func41, Try.ntmps41
   try go_wp2_with (first | ((with_reducible refine gate_dst (N := 3) rfl ?_); refine box_event ?hg (N := 3) ?hd (cs := #[.int .i64 a0_0, .int .i64 a0_1]) (t := 43) ?hr ?_; (case hd => rfl); (case hg => rfl); (case hr => first | (go_simp; done) | (go_simp; rfl)); intro gb132 hg w15 hbox hb; have n0_ := As0.mk (bst (by repeat (first | (with_reducible first | exact HB.out | apply bal | apply pwB_ | apply bd1) | exact HB.out)) hb); have n1_ := As0.mk (hbox); have n2_ := As0.mk ((by rw [hg]; exact (below_size (by repeat (first | (with_reducible first | exact HB.out | apply bal | apply pwB_ | apply bd1) | exact HB.out))) : w.heap.size ≤ gb132)); have n3_ := As0.mk ((by rw [hg]; exact (below_size (by repeat (first | (with_reducible first | exact HB.out | apply bal | apply pwB_ | apply bd1) | exact HB.out))) : w.heap.size ≤ gb132)); clear HB; have HB := n0_; have BK132 := n1_; have GW132 := n2_; have GE132 := n3_; clear n0_ n1_ n2_ n3_; clear hb hbox hg))
   have n0_ := As0.mk (bkd BK132.out)
   have n1_ := As0.mk (bd1 HB.out)
   clear BK132
   clear HB
   have BK132 := n0_
   have HB := n1_
   clear n0_ n1_
   refine start_ (n := 8) (S := fun w' => w'.cell? ⟨gb132, 0, none⟩ = some (.int .i64 a0_0) ∧ w'.cell? ⟨gb132, 1, none⟩ = some (.int .i64 a0_1)) (ds := []) #[false, false, false, false, false, false, false, false] (by kernel_rfl) rfl rfl ⟨(bce BK132.out 0).trans rfl, (bce BK132.out 1).trans rfl⟩ (fun hHeld => ?_); refine with_tabW ff_less.tab1 ff_less.bits1 (fun HT_ HW_ => ?_)
   generalize w15.drew = w16 at BK132 HB hHeld ⊢
   refine pure_ (i := 1) (N := some 10) (v := ?_) (a' := ?_) #[false, true, false, false, false, false, false, false] rfl rfl (any_of HT_.out (by kernel_rfl)) (fun _ _ _ h => h) (Or.inl ⟨by rfl, ?_⟩) ?_ ?_
   rotate_left
   ·intro w'
    go_simp
    with_reducible rfl
   rotate_left
   ·simp only [Act.put, zsi, zcz, zcs, i64_w, i32_w]
    rfl
   refine pure_ (i := 4) (N := some 13) (v := ?_) (a' := ?_) #[false, true, false, false, true, false, false, false] rfl rfl (any_of HT_.out (by kernel_rfl)) (fun _ _ _ h => h) (Or.inl ⟨by rfl, ?_⟩) ?_ ?_
   rotate_left
   ·intro w'
    go_simp
    with_reducible rfl
   rotate_left
   ·simp only [Act.put, zsi, zcz, zcs, i64_w, i32_w]
    rfl
   refine take_ (i := 0) (N := some 9) (v := ?_) (a' := ?_) #[true, true, false, false, true, false, false, false] rfl rfl (take_ofW HT_.out HW_.out (by kernel_rfl)) (fun _ _ _ h => h) (Or.inl ⟨by rfl, ?_⟩) hHeld ?_ ?_
   rotate_left
   ·rintro w' ⟨s0, s1⟩
    go_simp
    with_reducible rfl
   rotate_left
   ·simp only [Act.put, zsi, zcz, zcs, i64_w, i32_w]
    rfl
   refine take_ (i := 3) (N := some 12) (v := ?_) (a' := ?_) #[true, true, false, true, true, false, false, false] rfl rfl (take_ofW HT_.out HW_.out (by kernel_rfl)) (fun _ _ _ h => h) (Or.inl ⟨by rfl, ?_⟩) hHeld ?_ ?_
   rotate_left
   ·rintro w' ⟨s0, s1⟩
    go_simp
    with_reducible rfl
   rotate_left
   ·simp only [Act.put, zsi, zcz, zcs, i64_w, i32_w]
    rfl
   refine one_ (i := 2) (N := some 11) #[true, true, true, true, true, false, false, false] rfl rfl (one_of HT_.out (by kernel_rfl)) (by decide) (fun K hK => ?_)
   refine goes_ Try.func40 (by kernel_rfl) rfl #[.agg #[.int .i64 a0_0, .int .i64 a0_1], .int .u64 a1] (by rfl) rfl rfl (by (try simp only [zmt, zmc, zmn]); first | done | rfl) ?_
   with_reducible refine (ff_size.calls a0_0 a0_1 a1 t133 _ A4.out).mono ?_
   rintro e w17 ⟨rfl, hb⟩
   refine ⟨_, rfl, ?_⟩
   have n0_ := As0.mk (bkb (g := gb132) (o := .cells #[.int .i64 a0_0, .int .i64 a0_1] 43 (0, 0)) (by (with_reducible repeat (first | refine bkN ?_ _ | refine bkd ?_ | refine bka ?_ _)); exact BK132.out) hb)
   have n1_ := As0.mk (bst (by repeat (first | (with_reducible first | exact HB.out | apply bal | apply pwB_ | apply bd1 | refine bse ?_ GE132.out) | exact HB.out)) hb)
   clear BK132
   clear HB
   have BK132 := n0_
   have HB := n1_
   clear n0_ n1_
   (try clear hb)
   (try clear hb2)
   (try clear hk)
   (try clear hi)
   refine hK.out _ _ ⟨(bce BK132.out 0).trans rfl, (bce BK132.out 1).trans rfl⟩ (fun hHeld => ?_)
   clear hK K
   refine norm_ (a' := ?_) ?_ ?_
   rotate_left
   ·show Act.put _ (some 11) _ = _
    simp only [Act.put, zsi, zcz, zcs, i64_w, i32_w]
    rfl
   refine one_ (i := 5) (N := some 14) #[true, true, true, true, true, true, false, false] rfl rfl (one_of HT_.out (by kernel_rfl)) (by decide) (fun K hK => ?_)
   refine goes_ Try.func40 (by kernel_rfl) rfl #[.agg #[.int .i64 a0_0, .int .i64 a0_1], .int .u64 a2] (by rfl) rfl rfl (by (try simp only [zmt, zmc, zmn]); first | done | rfl) ?_
   with_reducible refine (ff_size.calls a0_0 a0_1 a2 t134 _ A5.out).mono ?_
   rintro e w18 ⟨rfl, hb⟩
   refine ⟨_, rfl, ?_⟩
   have n0_ := As0.mk (bkb (g := gb132) (o := .cells #[.int .i64 a0_0, .int .i64 a0_1] 43 (0, 0)) (by (with_reducible repeat (first | refine bkN ?_ _ | refine bkd ?_ | refine bka ?_ _)); exact BK132.out) hb)
   have n1_ := As0.mk (bst (by repeat (first | (with_reducible first | exact HB.out | apply bal | apply pwB_ | apply bd1 | refine bse ?_ GE132.out) | exact HB.out)) hb)
   clear BK132
   clear HB
   have BK132 := n0_
   have HB := n1_
   clear n0_ n1_
   (try clear hb)
   (try clear hb2)
   (try clear hk)
   (try clear hi)
   refine hK.out _ _ ⟨(bce BK132.out 0).trans rfl, (bce BK132.out 1).trans rfl⟩ (fun hHeld => ?_)
   clear hK K
   refine norm_ (a' := ?_) ?_ ?_
   rotate_left
   ·show Act.put _ (some 14) _ = _
    simp only [Act.put, zsi, zcz, zcs, i64_w, i32_w]
    rfl
   refine pure_ (i := 6) (N := some 7) (v := ?_) (a' := ?_) #[true, true, true, true, true, true, true, false] rfl rfl (any_of HT_.out (by kernel_rfl)) (fun _ _ _ h => h) (Or.inl ⟨by rfl, ?_⟩) ?_ ?_
   rotate_left
   ·intro w'
    go_simp
    with_reducible rfl
   rotate_left
   ·simp only [Act.put, zsi, zcz, zcs, i64_w, i32_w]
    rfl
   refine pure_ (i := 7) (N := some 8) (v := ?_) (a' := ?_) #[true, true, true, true, true, true, true, true] rfl rfl (any_of HT_.out (by kernel_rfl)) (fun _ _ _ h => h) (Or.inl ⟨by rfl, ?_⟩) ?_ ?_
   rotate_left
   ·intro w'
    go_simp
    with_reducible rfl
   rotate_left
   ·simp only [Act.put, zsi, zcz, zcs, i64_w, i32_w]
    rfl
   refine done_ (done_of HT_.out (by kernel_rfl)) ?_
   try go_wp2
   have n0_ := As0.mk (bkd BK132.out)
   have n1_ := As0.mk (bd1 HB.out)
   clear BK132
   clear HB
   have BK132 := n0_
   have HB := n1_
   clear n0_ n1_
   refine start_ (n := 8) (S := fun w' => w'.cell? ⟨gb132, 0, none⟩ = some (.int .i64 a0_0) ∧ w'.cell? ⟨gb132, 1, none⟩ = some (.int .i64 a0_1)) (ds := []) #[false, false, false, false, false, false, false, false] (by kernel_rfl) rfl rfl ⟨(bce BK132.out 0).trans rfl, (bce BK132.out 1).trans rfl⟩ (fun hHeld => ?_); refine with_tabW ff_less.tab4 ff_less.bits4 (fun HT_ HW_ => ?_)
   generalize w18.drew = w19 at BK132 HB hHeld ⊢
   refine pure_ (i := 1) (N := some 22) (v := ?_) (a' := ?_) #[false, true, false, false, false, false, false, false] rfl rfl (any_of HT_.out (by kernel_rfl)) (fun _ _ _ h => h) (Or.inl ⟨by rfl, ?_⟩) ?_ ?_
   rotate_left
   ·intro w'
    go_simp
    with_reducible rfl
   rotate_left
   ·simp only [Act.put, zsi, zcz, zcs, i64_w, i32_w]
    rfl
   refine pure_ (i := 4) (N := some 25) (v := ?_) (a' := ?_) #[false, true, false, false, true, false, false, false] rfl rfl (any_of HT_.out (by kernel_rfl)) (fun _ _ _ h => h) (Or.inl ⟨by rfl, ?_⟩) ?_ ?_
   rotate_left
   ·intro w'
    go_simp
    with_reducible rfl
   rotate_left
   ·simp only [Act.put, zsi, zcz, zcs, i64_w, i32_w]
    rfl
   refine take_ (i := 0) (N := some 21) (v := ?_) (a' := ?_) #[true, true, false, false, true, false, false, false] rfl rfl (take_ofW HT_.out HW_.out (by kernel_rfl)) (fun _ _ _ h => h) (Or.inl ⟨by rfl, ?_⟩) hHeld ?_ ?_
   rotate_left
   ·rintro w' ⟨s0, s1⟩
    go_simp
    with_reducible rfl
   rotate_left
   ·simp only [Act.put, zsi, zcz, zcs, i64_w, i32_w]
    rfl
   refine take_ (i := 3) (N := some 24) (v := ?_) (a' := ?_) #[true, true, false, true, true, false, false, false] rfl rfl (take_ofW HT_.out HW_.out (by kernel_rfl)) (fun _ _ _ h => h) (Or.inl ⟨by rfl, ?_⟩) hHeld ?_ ?_
   rotate_left
   ·rintro w' ⟨s0, s1⟩
    go_simp
    with_reducible rfl
   rotate_left
   ·simp only [Act.put, zsi, zcz, zcs, i64_w, i32_w]
    rfl
   refine one_ (i := 2) (N := some 23) #[true, true, true, true, true, false, false, false] rfl rfl (one_of HT_.out (by kernel_rfl)) (by decide) (fun K hK => ?_)
   refine goes_ Try.func39 (by kernel_rfl) rfl #[.agg #[.int .i64 a0_0, .int .i64 a0_1], .int .u64 a1] (by rfl) rfl rfl (by (try simp only [zmt, zmc, zmn]); first | done | rfl) ?_
   with_reducible refine (ff_neg.calls a0_0 a0_1 a1 t135 _ A11.out).mono ?_
   rintro e w20 ⟨rfl, hb⟩
   refine ⟨_, rfl, ?_⟩
   have n0_ := As0.mk (bkb (g := gb132) (o := .cells #[.int .i64 a0_0, .int .i64 a0_1] 43 (0, 0)) (by (with_reducible repeat (first | refine bkN ?_ _ | refine bkd ?_ | refine bka ?_ _)); exact BK132.out) hb)
   have n1_ := As0.mk (bst (by repeat (first | (with_reducible first | exact HB.out | apply bal | apply pwB_ | apply bd1 | refine bse ?_ GE132.out) | exact HB.out)) hb)
   clear BK132
   clear HB
   have BK132 := n0_
   have HB := n1_
   clear n0_ n1_
   (try clear hb)
   (try clear hb2)
   (try clear hk)
   (try clear hi)
   refine hK.out _ _ ⟨(bce BK132.out 0).trans rfl, (bce BK132.out 1).trans rfl⟩ (fun hHeld => ?_)
   clear hK K
   refine norm_ (a' := ?_) ?_ ?_
   rotate_left
   ·show Act.put _ (some 23) _ = _
    simp only [Act.put, zsi, zcz, zcs, i64_w, i32_w]
    rfl
   refine one_ (i := 5) (N := some 26) #[true, true, true, true, true, true, false, false] rfl rfl (one_of HT_.out (by kernel_rfl)) (by decide) (fun K hK => ?_)
   refine goes_ Try.func39 (by kernel_rfl) rfl #[.agg #[.int .i64 a0_0, .int .i64 a0_1], .int .u64 a2] (by rfl) rfl rfl (by (try simp only [zmt, zmc, zmn]); first | done | rfl) ?_
   with_reducible refine (ff_neg.calls a0_0 a0_1 a2 t136 _ A12.out).mono ?_
   rintro e w21 ⟨rfl, hb⟩
   refine ⟨_, rfl, ?_⟩
   have n0_ := As0.mk (bkb (g := gb132) (o := .cells #[.int .i64 a0_0, .int .i64 a0_1] 43 (0, 0)) (by (with_reducible repeat (first | refine bkN ?_ _ | refine bkd ?_ | refine bka ?_ _)); exact BK132.out) hb)
   have n1_ := As0.mk (bst (by repeat (first | (with_reducible first | exact HB.out | apply bal | apply pwB_ | apply bd1 | refine bse ?_ GE132.out) | exact HB.out)) hb)
   clear BK132
   clear HB
   have BK132 := n0_
   have HB := n1_
   clear n0_ n1_
   (try clear hb)
   (try clear hb2)
   (try clear hk)
   (try clear hi)
   refine hK.out _ _ ⟨(bce BK132.out 0).trans rfl, (bce BK132.out 1).trans rfl⟩ (fun hHeld => ?_)
   clear hK K
   refine norm_ (a' := ?_) ?_ ?_
   rotate_left
   ·show Act.put _ (some 26) _ = _
    simp only [Act.put, zsi, zcz, zcs, i64_w, i32_w]
    rfl
   refine pure_ (i := 6) (N := some 27) (v := ?_) (a' := ?_) #[true, true, true, true, true, true, true, false] rfl rfl (any_of HT_.out (by kernel_rfl)) (fun _ _ _ h => h) (Or.inl ⟨by rfl, ?_⟩) ?_ ?_
   rotate_left
   ·intro w'
    go_simp
    with_reducible rfl
   rotate_left
   ·simp only [Act.put, zsi, zcz, zcs, i64_w, i32_w]
    rfl
   refine pure_ (i := 7) (N := some 20) (v := ?_) (a' := ?_) #[true, true, true, true, true, true, true, true] rfl rfl (any_of HT_.out (by kernel_rfl)) (fun _ _ _ h => h) (Or.inl ⟨by rfl, ?_⟩) ?_ ?_
   rotate_left
   ·intro w'
    go_simp
    with_reducible rfl
   rotate_left
   ·simp only [Act.put, zsi, zcz, zcs, i64_w, i32_w]
    rfl
   refine done_ (done_of HT_.out (by kernel_rfl)) ?_
   have hcz22_0 : w21.cell? ⟨gb132, 0, none⟩ = some (.int .i64 a0_0) := (bce BK132.out 0).trans rfl
   have hcz22_1 : w21.cell? ⟨gb132, 1, none⟩ = some (.int .i64 a0_1) := (bce BK132.out 1).trans rfl
   have hfz22_0 := bkf BK132.out 0
   have hfz22_1 := bkf BK132.out 1
   try go_wp2_with (first | ((with_reducible refine gcl (f := 39) rfl ?_); refine goesL_ (some 30) rfl rfl Try.func39 (by kernel_rfl) rfl #[.agg #[.int .i64 a0_0, .int .i64 a0_1], .int .u64 a1] rfl (by (try simp only [zmt, zmc, zmn]); first | done | rfl) ?_; (with_reducible refine (ff_neg.calls a0_0 a0_1 a1 t137 _ A14.out).mono ?_); rintro e w23 ⟨rfl, hb⟩; refine ⟨_, rfl, ?_⟩; have n0_ := As0.mk (bkb (g := gb132) (o := .cells #[.int .i64 a0_0, .int .i64 a0_1] 43 (0, 0)) (by (with_reducible repeat (first | refine bkN ?_ _ | refine bkd ?_ | refine bka ?_ _)); exact BK132.out) hb); have n1_ := As0.mk (bst (by repeat (first | (with_reducible first | exact HB.out | apply bal | apply pwB_ | apply bd1 | refine bse ?_ GE132.out) | exact HB.out)) hb); clear BK132; clear HB; have BK132 := n0_; have HB := n1_; clear n0_ n1_; (try clear hb); (try clear hb2); (try clear hk); (try clear hi)))
   go_ret
   exact ⟨by first | rfl | (simp [*] <;> rfl), by repeat (first | (with_reducible first | exact HB.out | apply bal | apply pwB_ | apply bd1 | refine bse ?_ GE132.out) | exact HB.out)⟩
  ·rw [if_neg c13] at H
   have c13b0 : (t135 != t136) = false := by simpa using c13
   (try (have c13b1 : decide (t135 = t136) = true := by simpa using c13))
   (try (have c13b2 : (t135 == t136) = true := by simpa using c13))
   clear c13
   replace H := zob H
   obtain ⟨t138, A240, H⟩ := H
   replace H : (if t138 = true then (some (decide (t133 > t134))) else (some (decide (t133 < t134)))) = some r := H
   have A24 := As0.mk A240
   clear A240
   by_cases c25 : t138 = true
   ·subst c25
    have H1 : (some (decide (t133 > t134))) = some r := by rw [if_pos rfl] at H; exact H
    clear H
    have H := H1
    clear H1
    obtain rfl := Option.some.inj H
    go_enter Try.func41, Try.ntmps41
    try go_wp2_with (first | ((with_reducible refine gate_dst (N := 3) rfl ?_); refine box_event ?hg (N := 3) ?hd (cs := #[.int .i64 a0_0, .int .i64 a0_1]) (t := 43) ?hr ?_; (case hd => rfl); (case hg => rfl); (case hr => first | (go_simp; done) | (go_simp; rfl)); intro gb132 hg w26 hbox hb; have n0_ := As0.mk (bst (by repeat (first | (with_reducible first | exact HB.out | apply bal | apply pwB_ | apply bd1) | exact HB.out)) hb); have n1_ := As0.mk (hbox); have n2_ := As0.mk ((by rw [hg]; exact (below_size (by repeat (first | (with_reducible first | exact HB.out | apply bal | apply pwB_ | apply bd1) | exact HB.out))) : w.heap.size ≤ gb132)); have n3_ := As0.mk ((by rw [hg]; exact (below_size (by repeat (first | (with_reducible first | exact HB.out | apply bal | apply pwB_ | apply bd1) | exact HB.out))) : w.heap.size ≤ gb132)); clear HB; have HB := n0_; have BK132 := n1_; have GW132 := n2_; have GE132 := n3_; clear n0_ n1_ n2_ n3_; clear hb hbox hg))
    have n0_ := As0.mk (bkd BK132.out)
    have n1_ := As0.mk (bd1 HB.out)
    clear BK132
    clear HB
    have BK132 := n0_
    have HB := n1_
    clear n0_ n1_
    refine start_ (n := 8) (S := fun w' => w'.cell? ⟨gb132, 0, none⟩ = some (.int .i64 a0_0) ∧ w'.cell? ⟨gb132, 1, none⟩ = some (.int .i64 a0_1)) (ds := []) #[false, false, false, false, false, false, false, false] (by kernel_rfl) rfl rfl ⟨(bce BK132.out 0).trans rfl, (bce BK132.out 1).trans rfl⟩ (fun hHeld => ?_); refine with_tabW ff_less.tab1 ff_less.bits1 (fun HT_ HW_ => ?_)
    generalize w26.drew = w27 at BK132 HB hHeld ⊢
    refine pure_ (i := 1) (N := some 10) (v := ?_) (a' := ?_) #[false, true, false, false, false, false, false, false] rfl rfl (any_of HT_.out (by kernel_rfl)) (fun _ _ _ h => h) (Or.inl ⟨by rfl, ?_⟩) ?_ ?_
    rotate_left
    ·intro w'
     go_simp
     with_reducible rfl
    rotate_left
    ·simp only [Act.put, zsi, zcz, zcs, i64_w, i32_w]
     rfl
    refine pure_ (i := 4) (N := some 13) (v := ?_) (a' := ?_) #[false, true, false, false, true, false, false, false] rfl rfl (any_of HT_.out (by kernel_rfl)) (fun _ _ _ h => h) (Or.inl ⟨by rfl, ?_⟩) ?_ ?_
    rotate_left
    ·intro w'
     go_simp
     with_reducible rfl
    rotate_left
    ·simp only [Act.put, zsi, zcz, zcs, i64_w, i32_w]
     rfl
    refine take_ (i := 0) (N := some 9) (v := ?_) (a' := ?_) #[true, true, false, false, true, false, false, false] rfl rfl (take_ofW HT_.out HW_.out (by kernel_rfl)) (fun _ _ _ h => h) (Or.inl ⟨by rfl, ?_⟩) hHeld ?_ ?_
    rotate_left
    ·rintro w' ⟨s0, s1⟩
     go_simp
     with_reducible rfl
    rotate_left
    ·simp only [Act.put, zsi, zcz, zcs, i64_w, i32_w]
     rfl
    refine take_ (i := 3) (N := some 12) (v := ?_) (a' := ?_) #[true, true, false, true, true, false, false, false] rfl rfl (take_ofW HT_.out HW_.out (by kernel_rfl)) (fun _ _ _ h => h) (Or.inl ⟨by rfl, ?_⟩) hHeld ?_ ?_
    rotate_left
    ·rintro w' ⟨s0, s1⟩
     go_simp
     with_reducible rfl
    rotate_left
    ·simp only [Act.put, zsi, zcz, zcs, i64_w, i32_w]
     rfl
    refine one_ (i := 2) (N := some 11) #[true, true, true, true, true, false, false, false] rfl rfl (one_of HT_.out (by kernel_rfl)) (by decide) (fun K hK => ?_)
    refine goes_ Try.func40 (by kernel_rfl) rfl #[.agg #[.int .i64 a0_0, .int .i64 a0_1], .int .u64 a1] (by rfl) rfl rfl (by (try simp only [zmt, zmc, zmn]); first | done | rfl) ?_
    with_reducible refine (ff_size.calls a0_0 a0_1 a1 t133 _ A4.out).mono ?_
    rintro e w28 ⟨rfl, hb⟩
    refine ⟨_, rfl, ?_⟩
    have n0_ := As0.mk (bkb (g := gb132) (o := .cells #[.int .i64 a0_0, .int .i64 a0_1] 43 (0, 0)) (by (with_reducible repeat (first | refine bkN ?_ _ | refine bkd ?_ | refine bka ?_ _)); exact BK132.out) hb)
    have n1_ := As0.mk (bst (by repeat (first | (with_reducible first | exact HB.out | apply bal | apply pwB_ | apply bd1 | refine bse ?_ GE132.out) | exact HB.out)) hb)
    clear BK132
    clear HB
    have BK132 := n0_
    have HB := n1_
    clear n0_ n1_
    (try clear hb)
    (try clear hb2)
    (try clear hk)
    (try clear hi)
    refine hK.out _ _ ⟨(bce BK132.out 0).trans rfl, (bce BK132.out 1).trans rfl⟩ (fun hHeld => ?_)
    clear hK K
    refine norm_ (a' := ?_) ?_ ?_
    rotate_left
    ·show Act.put _ (some 11) _ = _
     simp only [Act.put, zsi, zcz, zcs, i64_w, i32_w]
     rfl
    refine one_ (i := 5) (N := some 14) #[true, true, true, true, true, true, false, false] rfl rfl (one_of HT_.out (by kernel_rfl)) (by decide) (fun K hK => ?_)
    refine goes_ Try.func40 (by kernel_rfl) rfl #[.agg #[.int .i64 a0_0, .int .i64 a0_1], .int .u64 a2] (by rfl) rfl rfl (by (try simp only [zmt, zmc, zmn]); first | done | rfl) ?_
    with_reducible refine (ff_size.calls a0_0 a0_1 a2 t134 _ A5.out).mono ?_
    rintro e w29 ⟨rfl, hb⟩
    refine ⟨_, rfl, ?_⟩
    have n0_ := As0.mk (bkb (g := gb132) (o := .cells #[.int .i64 a0_0, .int .i64 a0_1] 43 (0, 0)) (by (with_reducible repeat (first | refine bkN ?_ _ | refine bkd ?_ | refine bka ?_ _)); exact BK132.out) hb)
    have n1_ := As0.mk (bst (by repeat (first | (with_reducible first | exact HB.out | apply bal | apply pwB_ | apply bd1 | refine bse ?_ GE132.out) | exact HB.out)) hb)
    clear BK132
    clear HB
    have BK132 := n0_
    have HB := n1_
    clear n0_ n1_
    (try clear hb)
    (try clear hb2)
    (try clear hk)
    (try clear hi)
    refine hK.out _ _ ⟨(bce BK132.out 0).trans rfl, (bce BK132.out 1).trans rfl⟩ (fun hHeld => ?_)
    clear hK K
    refine norm_ (a' := ?_) ?_ ?_
    rotate_left
    ·show Act.put _ (some 14) _ = _
     simp only [Act.put, zsi, zcz, zcs, i64_w, i32_w]
     rfl
    refine pure_ (i := 6) (N := some 7) (v := ?_) (a' := ?_) #[true, true, true, true, true, true, true, false] rfl rfl (any_of HT_.out (by kernel_rfl)) (fun _ _ _ h => h) (Or.inl ⟨by rfl, ?_⟩) ?_ ?_
    rotate_left
    ·intro w'
     go_simp
     with_reducible rfl
    rotate_left
    ·simp only [Act.put, zsi, zcz, zcs, i64_w, i32_w]
     rfl
    refine pure_ (i := 7) (N := some 8) (v := ?_) (a' := ?_) #[true, true, true, true, true, true, true, true] rfl rfl (any_of HT_.out (by kernel_rfl)) (fun _ _ _ h => h) (Or.inl ⟨by rfl, ?_⟩) ?_ ?_
    rotate_left
    ·intro w'
     go_simp
     with_reducible rfl
    rotate_left
    ·simp only [Act.put, zsi, zcz, zcs, i64_w, i32_w]
     rfl
    refine done_ (done_of HT_.out (by kernel_rfl)) ?_
    try go_wp2
    have n0_ := As0.mk (bkd BK132.out)
    have n1_ := As0.mk (bd1 HB.out)
    clear BK132
    clear HB
    have BK132 := n0_
    have HB := n1_
    clear n0_ n1_
    refine start_ (n := 8) (S := fun w' => w'.cell? ⟨gb132, 0, none⟩ = some (.int .i64 a0_0) ∧ w'.cell? ⟨gb132, 1, none⟩ = some (.int .i64 a0_1)) (ds := []) #[false, false, false, false, false, false, false, false] (by kernel_rfl) rfl rfl ⟨(bce BK132.out 0).trans rfl, (bce BK132.out 1).trans rfl⟩ (fun hHeld => ?_); refine with_tabW ff_less.tab4 ff_less.bits4 (fun HT_ HW_ => ?_)
    generalize w29.drew = w30 at BK132 HB hHeld ⊢
    refine pure_ (i := 1) (N := some 22) (v := ?_) (a' := ?_) #[false, true, false, false, false, false, false, false] rfl rfl (any_of HT_.out (by kernel_rfl)) (fun _ _ _ h => h) (Or.inl ⟨by rfl, ?_⟩) ?_ ?_
    rotate_left
    ·intro w'
     go_simp
     with_reducible rfl
    rotate_left
    ·simp only [Act.put, zsi, zcz, zcs, i64_w, i32_w]
     rfl
    refine pure_ (i := 4) (N := some 25) (v := ?_) (a' := ?_) #[false, true, false, false, true, false, false, false] rfl rfl (any_of HT_.out (by kernel_rfl)) (fun _ _ _ h => h) (Or.inl ⟨by rfl, ?_⟩) ?_ ?_
    rotate_left
    ·intro w'
     go_simp
     with_reducible rfl
    rotate_left
    ·simp only [Act.put, zsi, zcz, zcs, i64_w, i32_w]
     rfl
    refine take_ (i := 0) (N := some 21) (v := ?_) (a' := ?_) #[true, true, false, false, true, false, false, false] rfl rfl (take_ofW HT_.out HW_.out (by kernel_rfl)) (fun _ _ _ h => h) (Or.inl ⟨by rfl, ?_⟩) hHeld ?_ ?_
    rotate_left
    ·rintro w' ⟨s0, s1⟩
     go_simp
     with_reducible rfl
    rotate_left
    ·simp only [Act.put, zsi, zcz, zcs, i64_w, i32_w]
     rfl
    refine take_ (i := 3) (N := some 24) (v := ?_) (a' := ?_) #[true, true, false, true, true, false, false, false] rfl rfl (take_ofW HT_.out HW_.out (by kernel_rfl)) (fun _ _ _ h => h) (Or.inl ⟨by rfl, ?_⟩) hHeld ?_ ?_
    rotate_left
    ·rintro w' ⟨s0, s1⟩
     go_simp
     with_reducible rfl
    rotate_left
    ·simp only [Act.put, zsi, zcz, zcs, i64_w, i32_w]
     rfl
    refine one_ (i := 2) (N := some 23) #[true, true, true, true, true, false, false, false] rfl rfl (one_of HT_.out (by kernel_rfl)) (by decide) (fun K hK => ?_)
    refine goes_ Try.func39 (by kernel_rfl) rfl #[.agg #[.int .i64 a0_0, .int .i64 a0_1], .int .u64 a1] (by rfl) rfl rfl (by (try simp only [zmt, zmc, zmn]); first | done | rfl) ?_
    with_reducible refine (ff_neg.calls a0_0 a0_1 a1 t135 _ A11.out).mono ?_
    rintro e w31 ⟨rfl, hb⟩
    refine ⟨_, rfl, ?_⟩
    have n0_ := As0.mk (bkb (g := gb132) (o := .cells #[.int .i64 a0_0, .int .i64 a0_1] 43 (0, 0)) (by (with_reducible repeat (first | refine bkN ?_ _ | refine bkd ?_ | refine bka ?_ _)); exact BK132.out) hb)
    have n1_ := As0.mk (bst (by repeat (first | (with_reducible first | exact HB.out | apply bal | apply pwB_ | apply bd1 | refine bse ?_ GE132.out) | exact HB.out)) hb)
    clear BK132
    clear HB
    have BK132 := n0_
    have HB := n1_
    clear n0_ n1_
    (try clear hb)
    (try clear hb2)
    (try clear hk)
    (try clear hi)
    refine hK.out _ _ ⟨(bce BK132.out 0).trans rfl, (bce BK132.out 1).trans rfl⟩ (fun hHeld => ?_)
    clear hK K
    refine norm_ (a' := ?_) ?_ ?_
    rotate_left
    ·show Act.put _ (some 23) _ = _
     simp only [Act.put, zsi, zcz, zcs, i64_w, i32_w]
     rfl
    refine one_ (i := 5) (N := some 26) #[true, true, true, true, true, true, false, false] rfl rfl (one_of HT_.out (by kernel_rfl)) (by decide) (fun K hK => ?_)
    refine goes_ Try.func39 (by kernel_rfl) rfl #[.agg #[.int .i64 a0_0, .int .i64 a0_1], .int .u64 a2] (by rfl) rfl rfl (by (try simp only [zmt, zmc, zmn]); first | done | rfl) ?_
    with_reducible refine (ff_neg.calls a0_0 a0_1 a2 t136 _ A12.out).mono ?_
    rintro e w32 ⟨rfl, hb⟩
    refine ⟨_, rfl, ?_⟩
    have n0_ := As0.mk (bkb (g := gb132) (o := .cells #[.int .i64 a0_0, .int .i64 a0_1] 43 (0, 0)) (by (with_reducible repeat (first | refine bkN ?_ _ | refine bkd ?_ | refine bka ?_ _)); exact BK132.out) hb)
    have n1_ := As0.mk (bst (by repeat (first | (with_reducible first | exact HB.out | apply bal | apply pwB_ | apply bd1 | refine bse ?_ GE132.out) | exact HB.out)) hb)
    clear BK132
    clear HB
    have BK132 := n0_
    have HB := n1_
    clear n0_ n1_
    (try clear hb)
    (try clear hb2)
    (try clear hk)
    (try clear hi)
    refine hK.out _ _ ⟨(bce BK132.out 0).trans rfl, (bce BK132.out 1).trans rfl⟩ (fun hHeld => ?_)
    clear hK K
    refine norm_ (a' := ?_) ?_ ?_
    rotate_left
    ·show Act.put _ (some 26) _ = _
     simp only [Act.put, zsi, zcz, zcs, i64_w, i32_w]
     rfl
    refine pure_ (i := 6) (N := some 27) (v := ?_) (a' := ?_) #[true, true, true, true, true, true, true, false] rfl rfl (any_of HT_.out (by kernel_rfl)) (fun _ _ _ h => h) (Or.inl ⟨by rfl, ?_⟩) ?_ ?_
    rotate_left
    ·intro w'
     go_simp
     with_reducible rfl
    rotate_left
    ·simp only [Act.put, zsi, zcz, zcs, i64_w, i32_w]
     rfl
    refine pure_ (i := 7) (N := some 20) (v := ?_) (a' := ?_) #[true, true, true, true, true, true, true, true] rfl rfl (any_of HT_.out (by kernel_rfl)) (fun _ _ _ h => h) (Or.inl ⟨by rfl, ?_⟩) ?_ ?_
    rotate_left
    ·intro w'
     go_simp
     with_reducible rfl
    rotate_left
    ·simp only [Act.put, zsi, zcz, zcs, i64_w, i32_w]
     rfl
    refine done_ (done_of HT_.out (by kernel_rfl)) ?_
    have hcz33_0 : w32.cell? ⟨gb132, 0, none⟩ = some (.int .i64 a0_0) := (bce BK132.out 0).trans rfl
    have hcz33_1 : w32.cell? ⟨gb132, 1, none⟩ = some (.int .i64 a0_1) := (bce BK132.out 1).trans rfl
    have hfz33_0 := bkf BK132.out 0
    have hfz33_1 := bkf BK132.out 1
    try go_wp2_with (first | ((with_reducible refine gcl (f := 39) rfl ?_); refine goesL_ (some 34) rfl rfl Try.func39 (by kernel_rfl) rfl #[.agg #[.int .i64 a0_0, .int .i64 a0_1], .int .u64 a1] rfl (by (try simp only [zmt, zmc, zmn]); first | done | rfl) ?_; (with_reducible refine (ff_neg.calls a0_0 a0_1 a1 true _ A24.out).mono ?_); rintro e w34 ⟨rfl, hb⟩; refine ⟨_, rfl, ?_⟩; have n0_ := As0.mk (bkb (g := gb132) (o := .cells #[.int .i64 a0_0, .int .i64 a0_1] 43 (0, 0)) (by (with_reducible repeat (first | refine bkN ?_ _ | refine bkd ?_ | refine bka ?_ _)); exact BK132.out) hb); have n1_ := As0.mk (bst (by repeat (first | (with_reducible first | exact HB.out | apply bal | apply pwB_ | apply bd1 | refine bse ?_ GE132.out) | exact HB.out)) hb); clear BK132; clear HB; have BK132 := n0_; have HB := n1_; clear n0_ n1_; (try clear hb); (try clear hb2); (try clear hk); (try clear hi)))
    go_ret
    exact ⟨by first | rfl | (simp [*] <;> rfl), by repeat (first | (with_reducible first | exact HB.out | apply bal | apply pwB_ | apply bd1 | refine bse ?_ GE132.out) | exact HB.out)⟩
   ·replace c25 := Bool.eq_false_iff.mpr c25
    subst c25
    have H1 : (some (decide (t133 < t134))) = some r := by rw [if_neg (show ¬ (false = true) by decide)] at H; exact H
    clear H
    have H := H1
    clear H1
    obtain rfl := Option.some.inj H
    go_enter Try.func41, Try.ntmps41
    try go_wp2_with (first | ((with_reducible refine gate_dst (N := 3) rfl ?_); refine box_event ?hg (N := 3) ?hd (cs := #[.int .i64 a0_0, .int .i64 a0_1]) (t := 43) ?hr ?_; (case hd => rfl); (case hg => rfl); (case hr => first | (go_simp; done) | (go_simp; rfl)); intro gb132 hg w35 hbox hb; have n0_ := As0.mk (bst (by repeat (first | (with_reducible first | exact HB.out | apply bal | apply pwB_ | apply bd1) | exact HB.out)) hb); have n1_ := As0.mk (hbox); have n2_ := As0.mk ((by rw [hg]; exact (below_size (by repeat (first | (with_reducible first | exact HB.out | apply bal | apply pwB_ | apply bd1) | exact HB.out))) : w.heap.size ≤ gb132)); have n3_ := As0.mk ((by rw [hg]; exact (below_size (by repeat (first | (with_reducible first | exact HB.out | apply bal | apply pwB_ | apply bd1) | exact HB.out))) : w.heap.size ≤ gb132)); clear HB; have HB := n0_; have BK132 := n1_; have GW132 := n2_; have GE132 := n3_; clear n0_ n1_ n2_ n3_; clear hb hbox hg))
    have n0_ := As0.mk (bkd BK132.out)
    have n1_ := As0.mk (bd1 HB.out)
    clear BK132
    clear HB
    have BK132 := n0_
    have HB := n1_
    clear n0_ n1_
    refine start_ (n := 8) (S := fun w' => w'.cell? ⟨gb132, 0, none⟩ = some (.int .i64 a0_0) ∧ w'.cell? ⟨gb132, 1, none⟩ = some (.int .i64 a0_1)) (ds := []) #[false, false, false, false, false, false, false, false] (by kernel_rfl) rfl rfl ⟨(bce BK132.out 0).trans rfl, (bce BK132.out 1).trans rfl⟩ (fun hHeld => ?_); refine with_tabW ff_less.tab1 ff_less.bits1 (fun HT_ HW_ => ?_)
    generalize w35.drew = w36 at BK132 HB hHeld ⊢
    refine pure_ (i := 1) (N := some 10) (v := ?_) (a' := ?_) #[false, true, false, false, false, false, false, false] rfl rfl (any_of HT_.out (by kernel_rfl)) (fun _ _ _ h => h) (Or.inl ⟨by rfl, ?_⟩) ?_ ?_
    rotate_left
    ·intro w'
     go_simp
     with_reducible rfl
    rotate_left
    ·simp only [Act.put, zsi, zcz, zcs, i64_w, i32_w]
     rfl
    refine pure_ (i := 4) (N := some 13) (v := ?_) (a' := ?_) #[false, true, false, false, true, false, false, false] rfl rfl (any_of HT_.out (by kernel_rfl)) (fun _ _ _ h => h) (Or.inl ⟨by rfl, ?_⟩) ?_ ?_
    rotate_left
    ·intro w'
     go_simp
     with_reducible rfl
    rotate_left
    ·simp only [Act.put, zsi, zcz, zcs, i64_w, i32_w]
     rfl
    refine take_ (i := 0) (N := some 9) (v := ?_) (a' := ?_) #[true, true, false, false, true, false, false, false] rfl rfl (take_ofW HT_.out HW_.out (by kernel_rfl)) (fun _ _ _ h => h) (Or.inl ⟨by rfl, ?_⟩) hHeld ?_ ?_
    rotate_left
    ·rintro w' ⟨s0, s1⟩
     go_simp
     with_reducible rfl
    rotate_left
    ·simp only [Act.put, zsi, zcz, zcs, i64_w, i32_w]
     rfl
    refine take_ (i := 3) (N := some 12) (v := ?_) (a' := ?_) #[true, true, false, true, true, false, false, false] rfl rfl (take_ofW HT_.out HW_.out (by kernel_rfl)) (fun _ _ _ h => h) (Or.inl ⟨by rfl, ?_⟩) hHeld ?_ ?_
    rotate_left
    ·rintro w' ⟨s0, s1⟩
     go_simp
     with_reducible rfl
    rotate_left
    ·simp only [Act.put, zsi, zcz, zcs, i64_w, i32_w]
     rfl
    refine one_ (i := 2) (N := some 11) #[true, true, true, true, true, false, false, false] rfl rfl (one_of HT_.out (by kernel_rfl)) (by decide) (fun K hK => ?_)
    refine goes_ Try.func40 (by kernel_rfl) rfl #[.agg #[.int .i64 a0_0, .int .i64 a0_1], .int .u64 a1] (by rfl) rfl rfl (by (try simp only [zmt, zmc, zmn]); first | done | rfl) ?_
    with_reducible refine (ff_size.calls a0_0 a0_1 a1 t133 _ A4.out).mono ?_
    rintro e w37 ⟨rfl, hb⟩
    refine ⟨_, rfl, ?_⟩
    have n0_ := As0.mk (bkb (g := gb132) (o := .cells #[.int .i64 a0_0, .int .i64 a0_1] 43 (0, 0)) (by (with_reducible repeat (first | refine bkN ?_ _ | refine bkd ?_ | refine bka ?_ _)); exact BK132.out) hb)
    have n1_ := As0.mk (bst (by repeat (first | (with_reducible first | exact HB.out | apply bal | apply pwB_ | apply bd1 | refine bse ?_ GE132.out) | exact HB.out)) hb)
    clear BK132
    clear HB
    have BK132 := n0_
    have HB := n1_
    clear n0_ n1_
    (try clear hb)
    (try clear hb2)
    (try clear hk)
    (try clear hi)
    refine hK.out _ _ ⟨(bce BK132.out 0).trans rfl, (bce BK132.out 1).trans rfl⟩ (fun hHeld => ?_)
    clear hK K
    refine norm_ (a' := ?_) ?_ ?_
    rotate_left
    ·show Act.put _ (some 11) _ = _
     simp only [Act.put, zsi, zcz, zcs, i64_w, i32_w]
     rfl
    refine one_ (i := 5) (N := some 14) #[true, true, true, true, true, true, false, false] rfl rfl (one_of HT_.out (by kernel_rfl)) (by decide) (fun K hK => ?_)
    refine goes_ Try.func40 (by kernel_rfl) rfl #[.agg #[.int .i64 a0_0, .int .i64 a0_1], .int .u64 a2] (by rfl) rfl rfl (by (try simp only [zmt, zmc, zmn]); first | done | rfl) ?_
    with_reducible refine (ff_size.calls a0_0 a0_1 a2 t134 _ A5.out).mono ?_
    rintro e w38 ⟨rfl, hb⟩
    refine ⟨_, rfl, ?_⟩
    have n0_ := As0.mk (bkb (g := gb132) (o := .cells #[.int .i64 a0_0, .int .i64 a0_1] 43 (0, 0)) (by (with_reducible repeat (first | refine bkN ?_ _ | refine bkd ?_ | refine bka ?_ _)); exact BK132.out) hb)
    have n1_ := As0.mk (bst (by repeat (first | (with_reducible first | exact HB.out | apply bal | apply pwB_ | apply bd1 | refine bse ?_ GE132.out) | exact HB.out)) hb)
    clear BK132
    clear HB
    have BK132 := n0_
    have HB := n1_
    clear n0_ n1_
    (try clear hb)
    (try clear hb2)
    (try clear hk)
    (try clear hi)
    refine hK.out _ _ ⟨(bce BK132.out 0).trans rfl, (bce BK132.out 1).trans rfl⟩ (fun hHeld => ?_)
    clear hK K
    refine norm_ (a' := ?_) ?_ ?_
    rotate_left
    ·show Act.put _ (some 14) _ = _
     simp only [Act.put, zsi, zcz, zcs, i64_w, i32_w]
     rfl
    refine pure_ (i := 6) (N := some 7) (v := ?_) (a' := ?_) #[true, true, true, true, true, true, true, false] rfl rfl (any_of HT_.out (by kernel_rfl)) (fun _ _ _ h => h) (Or.inl ⟨by rfl, ?_⟩) ?_ ?_
    rotate_left
    ·intro w'
     go_simp
     with_reducible rfl
    rotate_left
    ·simp only [Act.put, zsi, zcz, zcs, i64_w, i32_w]
     rfl
    refine pure_ (i := 7) (N := some 8) (v := ?_) (a' := ?_) #[true, true, true, true, true, true, true, true] rfl rfl (any_of HT_.out (by kernel_rfl)) (fun _ _ _ h => h) (Or.inl ⟨by rfl, ?_⟩) ?_ ?_
    rotate_left
    ·intro w'
     go_simp
     with_reducible rfl
    rotate_left
    ·simp only [Act.put, zsi, zcz, zcs, i64_w, i32_w]
     rfl
    refine done_ (done_of HT_.out (by kernel_rfl)) ?_
    try go_wp2
    have n0_ := As0.mk (bkd BK132.out)
    have n1_ := As0.mk (bd1 HB.out)
    clear BK132
    clear HB
    have BK132 := n0_
    have HB := n1_
    clear n0_ n1_
    refine start_ (n := 8) (S := fun w' => w'.cell? ⟨gb132, 0, none⟩ = some (.int .i64 a0_0) ∧ w'.cell? ⟨gb132, 1, none⟩ = some (.int .i64 a0_1)) (ds := []) #[false, false, false, false, false, false, false, false] (by kernel_rfl) rfl rfl ⟨(bce BK132.out 0).trans rfl, (bce BK132.out 1).trans rfl⟩ (fun hHeld => ?_); refine with_tabW ff_less.tab4 ff_less.bits4 (fun HT_ HW_ => ?_)
    generalize w38.drew = w39 at BK132 HB hHeld ⊢
    refine pure_ (i := 1) (N := some 22) (v := ?_) (a' := ?_) #[false, true, false, false, false, false, false, false] rfl rfl (any_of HT_.out (by kernel_rfl)) (fun _ _ _ h => h) (Or.inl ⟨by rfl, ?_⟩) ?_ ?_
    rotate_left
    ·intro w'
     go_simp
     with_reducible rfl
    rotate_left
    ·simp only [Act.put, zsi, zcz, zcs, i64_w, i32_w]
     rfl
    refine pure_ (i := 4) (N := some 25) (v := ?_) (a' := ?_) #[false, true, false, false, true, false, false, false] rfl rfl (any_of HT_.out (by kernel_rfl)) (fun _ _ _ h => h) (Or.inl ⟨by rfl, ?_⟩) ?_ ?_
    rotate_left
    ·intro w'
     go_simp
     with_reducible rfl
    rotate_left
    ·simp only [Act.put, zsi, zcz, zcs, i64_w, i32_w]
     rfl
    refine take_ (i := 0) (N := some 21) (v := ?_) (a' := ?_) #[true, true, false, false, true, false, false, false] rfl rfl (take_ofW HT_.out HW_.out (by kernel_rfl)) (fun _ _ _ h => h) (Or.inl ⟨by rfl, ?_⟩) hHeld ?_ ?_
    rotate_left
    ·rintro w' ⟨s0, s1⟩
     go_simp
     with_reducible rfl
    rotate_left
    ·simp only [Act.put, zsi, zcz, zcs, i64_w, i32_w]
     rfl
    refine take_ (i := 3) (N := some 24) (v := ?_) (a' := ?_) #[true, true, false, true, true, false, false, false] rfl rfl (take_ofW HT_.out HW_.out (by kernel_rfl)) (fun _ _ _ h => h) (Or.inl ⟨by rfl, ?_⟩) hHeld ?_ ?_
    rotate_left
    ·rintro w' ⟨s0, s1⟩
     go_simp
     with_reducible rfl
    rotate_left
    ·simp only [Act.put, zsi, zcz, zcs, i64_w, i32_w]
     rfl
    refine one_ (i := 2) (N := some 23) #[true, true, true, true, true, false, false, false] rfl rfl (one_of HT_.out (by kernel_rfl)) (by decide) (fun K hK => ?_)
    refine goes_ Try.func39 (by kernel_rfl) rfl #[.agg #[.int .i64 a0_0, .int .i64 a0_1], .int .u64 a1] (by rfl) rfl rfl (by (try simp only [zmt, zmc, zmn]); first | done | rfl) ?_
    with_reducible refine (ff_neg.calls a0_0 a0_1 a1 t135 _ A11.out).mono ?_
    rintro e w40 ⟨rfl, hb⟩
    refine ⟨_, rfl, ?_⟩
    have n0_ := As0.mk (bkb (g := gb132) (o := .cells #[.int .i64 a0_0, .int .i64 a0_1] 43 (0, 0)) (by (with_reducible repeat (first | refine bkN ?_ _ | refine bkd ?_ | refine bka ?_ _)); exact BK132.out) hb)
    have n1_ := As0.mk (bst (by repeat (first | (with_reducible first | exact HB.out | apply bal | apply pwB_ | apply bd1 | refine bse ?_ GE132.out) | exact HB.out)) hb)
    clear BK132
    clear HB
    have BK132 := n0_
    have HB := n1_
    clear n0_ n1_
    (try clear hb)
    (try clear hb2)
    (try clear hk)
    (try clear hi)
    refine hK.out _ _ ⟨(bce BK132.out 0).trans rfl, (bce BK132.out 1).trans rfl⟩ (fun hHeld => ?_)
    clear hK K
    refine norm_ (a' := ?_) ?_ ?_
    rotate_left
    ·show Act.put _ (some 23) _ = _
     simp only [Act.put, zsi, zcz, zcs, i64_w, i32_w]
     rfl
    refine one_ (i := 5) (N := some 26) #[true, true, true, true, true, true, false, false] rfl rfl (one_of HT_.out (by kernel_rfl)) (by decide) (fun K hK => ?_)
    refine goes_ Try.func39 (by kernel_rfl) rfl #[.agg #[.int .i64 a0_0, .int .i64 a0_1], .int .u64 a2] (by rfl) rfl rfl (by (try simp only [zmt, zmc, zmn]); first | done | rfl) ?_
    with_reducible refine (ff_neg.calls a0_0 a0_1 a2 t136 _ A12.out).mono ?_
    rintro e w41 ⟨rfl, hb⟩
    refine ⟨_, rfl, ?_⟩
    have n0_ := As0.mk (bkb (g := gb132) (o := .cells #[.int .i64 a0_0, .int .i64 a0_1] 43 (0, 0)) (by (with_reducible repeat (first | refine bkN ?_ _ | refine bkd ?_ | refine bka ?_ _)); exact BK132.out) hb)
    have n1_ := As0.mk (bst (by repeat (first | (with_reducible first | exact HB.out | apply bal | apply pwB_ | apply bd1 | refine bse ?_ GE132.out) | exact HB.out)) hb)
    clear BK132
    clear HB
    have BK132 := n0_
    have HB := n1_
    clear n0_ n1_
    (try clear hb)
    (try clear hb2)
    (try clear hk)
    (try clear hi)
    refine hK.out _ _ ⟨(bce BK132.out 0).trans rfl, (bce BK132.out 1).trans rfl⟩ (fun hHeld => ?_)
    clear hK K
    refine norm_ (a' := ?_) ?_ ?_
    rotate_left
    ·show Act.put _ (some 26) _ = _
     simp only [Act.put, zsi, zcz, zcs, i64_w, i32_w]
     rfl
    refine pure_ (i := 6) (N := some 27) (v := ?_) (a' := ?_) #[true, true, true, true, true, true, true, false] rfl rfl (any_of HT_.out (by kernel_rfl)) (fun _ _ _ h => h) (Or.inl ⟨by rfl, ?_⟩) ?_ ?_
    rotate_left
    ·intro w'
     go_simp
     with_reducible rfl
    rotate_left
    ·simp only [Act.put, zsi, zcz, zcs, i64_w, i32_w]
     rfl
    refine pure_ (i := 7) (N := some 20) (v := ?_) (a' := ?_) #[true, true, true, true, true, true, true, true] rfl rfl (any_of HT_.out (by kernel_rfl)) (fun _ _ _ h => h) (Or.inl ⟨by rfl, ?_⟩) ?_ ?_
    rotate_left
    ·intro w'
     go_simp
     with_reducible rfl
    rotate_left
    ·simp only [Act.put, zsi, zcz, zcs, i64_w, i32_w]
     rfl
    refine done_ (done_of HT_.out (by kernel_rfl)) ?_
    have hcz42_0 : w41.cell? ⟨gb132, 0, none⟩ = some (.int .i64 a0_0) := (bce BK132.out 0).trans rfl
    have hcz42_1 : w41.cell? ⟨gb132, 1, none⟩ = some (.int .i64 a0_1) := (bce BK132.out 1).trans rfl
    have hfz42_0 := bkf BK132.out 0
    have hfz42_1 := bkf BK132.out 1
    try go_wp2_with (first | ((with_reducible refine gcl (f := 39) rfl ?_); refine goesL_ (some 34) rfl rfl Try.func39 (by kernel_rfl) rfl #[.agg #[.int .i64 a0_0, .int .i64 a0_1], .int .u64 a1] rfl (by (try simp only [zmt, zmc, zmn]); first | done | rfl) ?_; (with_reducible refine (ff_neg.calls a0_0 a0_1 a1 false _ A24.out).mono ?_); rintro e w43 ⟨rfl, hb⟩; refine ⟨_, rfl, ?_⟩; have n0_ := As0.mk (bkb (g := gb132) (o := .cells #[.int .i64 a0_0, .int .i64 a0_1] 43 (0, 0)) (by (with_reducible repeat (first | refine bkN ?_ _ | refine bkd ?_ | refine bka ?_ _)); exact BK132.out) hb); have n1_ := As0.mk (bst (by repeat (first | (with_reducible first | exact HB.out | apply bal | apply pwB_ | apply bd1 | refine bse ?_ GE132.out) | exact HB.out)) hb); clear BK132; clear HB; have BK132 := n0_; have HB := n1_; clear n0_ n1_; (try clear hb); (try clear hb2); (try clear hk); (try clear hi)))
    go_ret
    exact ⟨by first | rfl | (simp [*] <;> rfl), by repeat (first | (with_reducible first | exact HB.out | apply bal | apply pwB_ | apply bd1 | refine bse ?_ GE132.out) | exact HB.out)⟩
end Go.Proofs.Ytjfmomogidgbpaa.PFl
namespace Go.Proofs.Ytjfmomogidgbpaa.PFl
open Go.RowKit Go.Proofs.YtjfmomogidgbpaaW.PrintWords Go.Proofs.YtjfmomogidgbpaaW.PrintLast Go.Proofs.YtjfmomogidgbpaaW.PrintMore
attribute [local go_sem] max2_int min2_int max_two min_two max_three min_three max_four min_four
set_option linter.unusedVariables false
set_option linter.unusedSimpArgs false
def ff_nan.f (a0_0 : Int) (a0_1 : Int) : Option (Int) := (ff_infinity.f a0_0 a0_1).bind fun t140 => (if 0 ≤ (IntKind.u64.wrap (wrap64 (a0_0 - 1))) then (some (Go.bits .or .u64 t140 (shl .u64 1 (IntKind.u64.wrap (wrap64 (a0_0 - 1)))))) else (none))
def ff_nan.T1 : Bool × List (List Nat × List Nat) := (true, [([], []), ([0], [0]), ([], []), ([2], [2]), ([3], [3]), ([4], [4]), ([5], [5]), ([1, 6], [1, 6]), ([7, 1, 0, 1, 2, 3, 4, 5, 6, 7], [7])])
def ff_nan.B1 : List Nat := [0, 1, 0, 4, 12, 28, 60, 127, 255]
theorem ff_nan.tab1 : rtab .any (opsOf Try.f42 1) = ff_nan.T1 := by kernel_rfl
theorem ff_nan.bits1 : waitsOk ff_nan.T1.2 ff_nan.B1 = true := by kernel_rfl
set_option maxHeartbeats 8000000 in
set_option maxRecDepth 100000 in
theorem ff_nan.calls (a0_0 : Int) (a0_1 : Int) (r : Int) (w : World) (h : ff_nan.f a0_0 a0_1 = some r) :
  Calls Try.prog 42 #[.agg #[.int .i64 a0_0, .int .i64 a0_1]] w fun e w' => e = .returned (.int .u64 r) ∧ Below w.heap.size w w' := by
 have hu43 := Try.underlying43
 have HB := As0.mk (Below.refl w.heap.size w)
 have H : ((ff_infinity.f a0_0 a0_1).bind fun t140 => (if 0 ≤ (IntKind.u64.wrap (wrap64 (a0_0 - 1))) then (some (Go.bits .or .u64 t140 (shl .u64 1 (IntKind.u64.wrap (wrap64 (a0_0 - 1)))))) else (none))) = some r := h
 clear h
 replace H := zob H
 obtain ⟨t140, A20, H⟩ := H
 replace H : (if 0 ≤ (IntKind.u64.wrap (wrap64 (a0_0 - 1))) then (some (Go.bits .or .u64 t140 (shl .u64 1 (IntKind.u64.wrap (wrap64 (a0_0 - 1)))))) else (none)) = some r := H
 have A2 := As0.mk A20
 clear A20
 obtain ⟨ji3, hji3⟩ : ∃ j_ : Int, (IntKind.u64.wrap (wrap64 (a0_0 - 1))) = j_ := ⟨_, rfl⟩
 replace H : (if 0 ≤ (ji3) then (some (Go.bits .or .u64 t140 (shl .u64 1 (ji3)))) else (none)) = some r := by first | (rw [hji3] at H; exact H) | (simp only [hji3] at H ⊢; exact H)
 (try rw [hji3] at A2)
 by_cases c4 : 0 ≤ (ji3)
 ·rw [if_pos c4] at H
  have c4b0 := eq_true c4
  have c4b1 : decide (0 ≤ (ji3)) = true := decide_eq_true c4
  clear c4
  obtain ⟨ji5, hji5⟩ : ∃ j_ : Int, (shl .u64 1 (ji3)) = j_ := ⟨_, rfl⟩
  replace H : (some (Go.bits .or .u64 t140 (ji5))) = some r := by first | (rw [hji5] at H; exact H) | (simp only [hji5] at H ⊢; exact H)
  (try rw [hji5] at A2)
  have hji5_ : (IntKind.u64.wrap (1 * 2 ^ min (ji3).toNat 64)) = ji5 := hji5
  have hji5z : (ji3) ≤ 64 → (IntKind.u64.wrap (1 * 2 ^ (ji3).toNat)) = ji5 := shl_small hji5
  have hji5u : (IntKind.u64.wrap (2 ^ min (ji3).toNat 64)) = ji5 := by have h_ := hji5_; rw [Int.one_mul] at h_; exact h_
  have hji5v : (ji3) ≤ 64 → (IntKind.u64.wrap (2 ^ (ji3).toNat)) = ji5 := fun hle_ => by have h_ := hji5z hle_; rw [Int.one_mul] at h_; exact h_
  obtain rfl := Option.some.inj H
  go_enter Try.func42, Try.ntmps42
  try go_wp2_with (first | ((with_reducible refine gate_dst (N := 1) rfl ?_); refine box_event ?hg (N := 1) ?hd (cs := #[.int .i64 a0_0, .int .i64 a0_1]) (t := 43) ?hr ?_; (case hd => rfl); (case hg => rfl); (case hr => first | (go_simp; done) | (go_simp; rfl)); intro gb139 hg w6 hbox hb; have n0_ := As0.mk (bst (by repeat (first | (with_reducible first | exact HB.out | apply bal | apply pwB_ | apply bd1) | exact HB.out)) hb); have n1_ := As0.mk (hbox); have n2_ := As0.mk ((by rw [hg]; exact (below_size (by repeat (first | (with_reducible first | exact HB.out | apply bal | apply pwB_ | apply bd1) | exact HB.out))) : w.heap.size ≤ gb139)); have n3_ := As0.mk ((by rw [hg]; exact (below_size (by repeat (first | (with_reducible first | exact HB.out | apply bal | apply pwB_ | apply bd1) | exact HB.out))) : w.heap.size ≤ gb139)); clear HB; have HB := n0_; have BK139 := n1_; have GW139 := n2_; have GE139 := n3_; clear n0_ n1_ n2_ n3_; clear hb hbox hg))
  have n0_ := As0.mk (bkd BK139.out)
  have n1_ := As0.mk (bd1 HB.out)
  clear BK139
  clear HB
  have BK139 := n0_
  have HB := n1_
  clear n0_ n1_
  refine start_ (n := 9) (S := fun w' => w'.cell? ⟨gb139, 0, none⟩ = some (.int .i64 a0_0) ∧ w'.cell? ⟨gb139, 1, none⟩ = some (.int .i64 a0_1)) (ds := []) #[false, false, false, false, false, false, false, false, false] (by kernel_rfl) rfl rfl ⟨(bce BK139.out 0).trans rfl, (bce BK139.out 1).trans rfl⟩ (fun hHeld => ?_); refine with_tabW ff_nan.tab1 ff_nan.bits1 (fun HT_ HW_ => ?_)
  generalize w6.drew = w7 at BK139 HB hHeld ⊢
  refine pure_ (i := 2) (N := some 5) (v := ?_) (a' := ?_) #[false, false, true, false, false, false, false, false, false] rfl rfl (any_of HT_.out (by kernel_rfl)) (fun _ _ _ h => h) (Or.inl ⟨by rfl, ?_⟩) ?_ ?_
  rotate_left
  ·intro w'
   go_simp
   with_reducible rfl
  rotate_left
  ·simp only [Act.put, zsi, zcz, zcs, i64_w, i32_w]
   rfl
  refine take_ (i := 0) (N := some 3) (v := ?_) (a' := ?_) #[true, false, true, false, false, false, false, false, false] rfl rfl (take_ofW HT_.out HW_.out (by kernel_rfl)) (fun _ _ _ h => h) (Or.inl ⟨by rfl, ?_⟩) hHeld ?_ ?_
  rotate_left
  ·rintro w' ⟨s0, s1⟩
   go_simp
   with_reducible rfl
  rotate_left
  ·simp only [Act.put, zsi, zcz, zcs, i64_w, i32_w]
   rfl
  refine take_ (i := 3) (N := some 6) (v := ?_) (a' := ?_) #[true, false, true, true, false, false, false, false, false] rfl rfl (take_ofW HT_.out HW_.out (by kernel_rfl)) (fun _ _ _ h => h) (Or.inl ⟨by rfl, ?_⟩) hHeld ?_ ?_
  rotate_left
  ·rintro w' ⟨s0, s1⟩
   go_simp
   with_reducible rfl
  rotate_left
  ·simp only [Act.put, zsi, zcz, zcs, i64_w, i32_w]
   rfl
  refine pure_ (i := 4) (N := some 7) (v := ?_) (a' := ?_) #[true, false, true, true, true, false, false, false, false] rfl rfl (any_of HT_.out (by kernel_rfl)) (fun _ _ _ h => h) (Or.inl ⟨by rfl, ?_⟩) ?_ ?_
  rotate_left
  ·intro w'
   go_simp
   with_reducible rfl
  rotate_left
  ·simp only [Act.put, zsi, zcz, zcs, i64_w, i32_w]
   rfl
  refine pure_ (i := 5) (N := some 8) (v := ?_) (a' := ?_) #[true, false, true, true, true, true, false, false, false] rfl rfl (any_of HT_.out (by kernel_rfl)) (fun _ _ _ h => h) (Or.inl ⟨by rfl, ?_⟩) ?_ ?_
  rotate_left
  ·intro w'
   go_simp
   with_reducible rfl
  rotate_left
  ·simp only [Act.put, zsi, zcz, zcs, i64_w, i32_w]
   rfl
  refine pure_ (i := 6) (N := some 9) (v := ?_) (a' := ?_) #[true, false, true, true, true, true, true, false, false] rfl rfl (any_of HT_.out (by kernel_rfl)) (fun _ _ _ h => h) (Or.inl ⟨by rfl, ?_⟩) ?_ ?_
  rotate_left
  ·intro w'
   go_simp
   with_reducible rfl
  rotate_left
  ·simp only [Act.put, zsi, zcz, zcs, i64_w, i32_w]
   rfl
  refine one_ (i := 1) (N := some 4) #[true, true, true, true, true, true, true, false, false] rfl rfl (one_of HT_.out (by kernel_rfl)) (by decide) (fun K hK => ?_)
  refine goes_ Try.func50 (by kernel_rfl) rfl #[.agg #[.int .i64 a0_0, .int .i64 a0_1]] (by rfl) rfl rfl (by (try simp only [zmt, zmc, zmn]); first | done | rfl) ?_
  with_reducible refine (ff_infinity.calls a0_0 a0_1 t140 _ A2.out).mono ?_
  rintro e w8 ⟨rfl, hb⟩
  refine ⟨_, rfl, ?_⟩
  have n0_ := As0.mk (bkb (g := gb139) (o := .cells #[.int .i64 a0_0, .int .i64 a0_1] 43 (0, 0)) (by (with_reducible repeat (first | refine bkN ?_ _ | refine bkd ?_ | refine bka ?_ _)); exact BK139.out) hb)
  have n1_ := As0.mk (bst (by repeat (first | (with_reducible first | exact HB.out | apply bal | apply pwB_ | apply bd1 | refine bse ?_ GE139.out) | exact HB.out)) hb)
  clear BK139
  clear HB
  have BK139 := n0_
  have HB := n1_
  clear n0_ n1_
  (try clear hb)
  (try clear hb2)
  (try clear hk)
  (try clear hi)
  refine hK.out _ _ ⟨(bce BK139.out 0).trans rfl, (bce BK139.out 1).trans rfl⟩ (fun hHeld => ?_)
  clear hK K
  refine norm_ (a' := ?_) ?_ ?_
  rotate_left
  ·show Act.put _ (some 4) _ = _
   simp only [Act.put, zsi, zcz, zcs, i64_w, i32_w]
   rfl
  refine pure_ (i := 7) (N := some 10) (v := ?_) (a' := ?_) #[true, true, true, true, true, true, true, true, false] rfl rfl (any_of HT_.out (by kernel_rfl)) (fun _ _ _ h => h) (Or.inl ⟨by rfl, ?_⟩) ?_ ?_
  rotate_left
  ·intro w'
   go_simp
   with_reducible rfl
  rotate_left
  ·simp only [Act.put, zsi, zcz, zcs, i64_w, i32_w]
   rfl
  refine pure_ (i := 8) (N := some 2) (v := ?_) (a' := ?_) #[true, true, true, true, true, true, true, true, true] rfl rfl (any_of HT_.out (by kernel_rfl)) (fun _ _ _ h => h) (Or.inl ⟨by rfl, ?_⟩) ?_ ?_
  rotate_left
  ·intro w'
   go_simp
   with_reducible rfl
  rotate_left
  ·simp only [Act.put, zsi, zcz, zcs, i64_w, i32_w]
   rfl
  refine done_ (done_of HT_.out (by kernel_rfl)) ?_
  try go_wp2
  go_ret
  exact ⟨by first | rfl | (simp only [← hji3, ← hji5]; first | rfl) | (simp [*] <;> rfl), by repeat (first | (with_reducible first | exact HB.out | apply bal | apply pwB_ | apply bd1 | refine bse ?_ GE139.out) | exact HB.out)⟩
 ·rw [if_neg c4] at H
  exact absurd H (by simp)
def ff_parts.f (a0_0 : Int) (a0_1 : Int) (a1 : Int) : Option (Int × Int) := (ff_size.f a0_0 a0_1 a1).bind fun t142 => (if 0 ≤ (IntKind.u64.wrap (a0_0)) then (if (wrap64 (shr .u64 t142 (IntKind.u64.wrap (a0_0)))) = 0 then ((ff_least.f a0_0 a0_1).bind fun t143 => (some (Go.bits .and .u64 t142 (IntKind.u64.wrap ((shl .u64 1 (IntKind.u64.wrap (a0_0))) - 1)), t143))) else ((ff_least.f a0_0 a0_1).bind fun t144 => (some (Go.bits .or .u64 (Go.bits .and .u64 t142 (IntKind.u64.wrap ((shl .u64 1 (IntKind.u64.wrap (a0_0))) - 1))) (shl .u64 1 (IntKind.u64.wrap (a0_0))), wrap64 ((wrap64 (t144 + (wrap64 (shr .u64 t142 (IntKind.u64.wrap (a0_0)))))) - 1))))) else (none))
def ff_parts.T6 : Bool × List (List Nat × List Nat) := (true, [([], []), ([], []), ([1], [1]), ([2], [2]), ([3], [3]), ([0, 4], [0, 4]), ([], []), ([6], [6]), ([], []), ([7, 8], [7, 8]), ([9], [9]), ([5, 7, 0, 1, 2, 3, 4, 5], [5]), ([10, 11, 0, 1, 2, 3, 4, 5, 6, 7, 8, 9, 10, 11], [10])])
def ff_parts.B6 : List Nat := [0, 0, 2, 6, 14, 31, 0, 64, 0, 448, 960, 255, 4095]
theorem ff_parts.tab6 : rtab .any (opsOf Try.f57 6) = ff_parts.T6 := by kernel_rfl
theorem ff_parts.bits6 : waitsOk ff_parts.T6.2 ff_parts.B6 = true := by kernel_rfl
set_option maxHeartbeats 8000000 in
set_option maxRecDepth 100000 in
theorem ff_parts.calls (a0_0 : Int) (a0_1 : Int) (a1 : Int) (r1 : Int) (r2 : Int) (w : World) (h : ff_parts.f a0_0 a0_1 a1 = some (r1, r2)) :
  Calls Try.prog 57 #[.agg #[.int .i64 a0_0, .int .i64 a0_1], .int .u64 a1] w fun e w' => e = .returned (.tuple #[.int .u64 r1, .int .i64 r2]) ∧ Below w.heap.size w w' := by
 have hu43 := Try.underlying43
 have HB := As0.mk (Below.refl w.heap.size w)
 have H : ((ff_size.f a0_0 a0_1 a1).bind fun t142 => (if 0 ≤ (IntKind.u64.wrap (a0_0)) then (if (wrap64 (shr .u64 t142 (IntKind.u64.wrap (a0_0)))) = 0 then ((ff_least.f a0_0 a0_1).bind fun t143 => (some (Go.bits .and .u64 t142 (IntKind.u64.wrap ((shl .u64 1 (IntKind.u64.wrap (a0_0))) - 1)), t143))) else ((ff_least.f a0_0 a0_1).bind fun t144 => (some (Go.bits .or .u64 (Go.bits .and .u64 t142 (IntKind.u64.wrap ((shl .u64 1 (IntKind.u64.wrap (a0_0))) - 1))) (shl .u64 1 (IntKind.u64.wrap (a0_0))), wrap64 ((wrap64 (t144 + (wrap64 (shr .u64 t142 (IntKind.u64.wrap (a0_0)))))) - 1))))) else (none))) = some (r1, r2) := h
 clear h
 replace H := zob H
 obtain ⟨t142, A30, H⟩ := H
 replace H : (if 0 ≤ (IntKind.u64.wrap (a0_0)) then (if (wrap64 (shr .u64 t142 (IntKind.u64.wrap (a0_0)))) = 0 then ((ff_least.f a0_0 a0_1).bind fun t143 => (some (Go.bits .and .u64 t142 (IntKind.u64.wrap ((shl .u64 1 (IntKind.u64.wrap (a0_0))) - 1)), t143))) else ((ff_least.f a0_0 a0_1).bind fun t144 => (some (Go.bits .or .u64 (Go.bits .and .u64 t142 (IntKind.u64.wrap ((shl .u64 1 (IntKind.u64.wrap (a0_0))) - 1))) (shl .u64 1 (IntKind.u64.wrap (a0_0))), wrap64 ((wrap64 (t144 + (wrap64 (shr .u64 t142 (IntKind.u64.wrap (a0_0)))))) - 1))))) else (none)) = some (r1, r2) := H
 have A3 := As0.mk A30
 clear A30
 obtain ⟨ji4, hji4⟩ : ∃ j_ : Int, (IntKind.u64.wrap (a0_0)) = j_ := ⟨_, rfl⟩
 replace H : (if 0 ≤ (ji4) then (if (wrap64 (shr .u64 t142 (ji4))) = 0 then ((ff_least.f a0_0 a0_1).bind fun t143 => (some (Go.bits .and .u64 t142 (IntKind.u64.wrap ((shl .u64 1 (ji4)) - 1)), t143))) else ((ff_least.f a0_0 a0_1).bind fun t144 => (some (Go.bits .or .u64 (Go.bits .and .u64 t142 (IntKind.u64.wrap ((shl .u64 1 (ji4)) - 1))) (shl .u64 1 (ji4)), wrap64 ((wrap64 (t144 + (wrap64 (shr .u64 t142 (ji4))))) - 1))))) else (none)) = some (r1, r2) := by first | (rw [hji4] at H; exact H) | (simp only [hji4] at H ⊢; exact H)
 (try rw [hji4] at A3)
 by_cases c5 : 0 ≤ (ji4)
 ·rw [if_pos c5] at H
  have c5b0 := eq_true c5
  have c5b1 : decide (0 ≤ (ji4)) = true := decide_eq_true c5
  clear c5
  obtain ⟨ji6, hji6⟩ : ∃ j_ : Int, (shr .u64 t142 (ji4)) = j_ := ⟨_, rfl⟩
  replace H : (if (wrap64 (ji6)) = 0 then ((ff_least.f a0_0 a0_1).bind fun t143 => (some (Go.bits .and .u64 t142 (IntKind.u64.wrap ((shl .u64 1 (ji4)) - 1)), t143))) else ((ff_least.f a0_0 a0_1).bind fun t144 => (some (Go.bits .or .u64 (Go.bits .and .u64 t142 (IntKind.u64.wrap ((shl .u64 1 (ji4)) - 1))) (shl .u64 1 (ji4)), wrap64 ((wrap64 (t144 + (wrap64 (ji6)))) - 1))))) = some (r1, r2) := by first | (rw [hji6] at H; exact H) | (simp only [hji6] at H ⊢; exact H)
  (try rw [hji6] at A3)
  have hji6_ : (t142 / 2 ^ min (ji4).toNat 64) = ji6 := hji6
  have hji6z : (ji4) ≤ 64 → (t142 / 2 ^ (ji4).toNat) = ji6 := shr_small hji6
  have c7b0 := eq_true (of_decide_eq_true (by first | (with_reducible assumption) | assumption) : 0 ≤ (ji4))
  obtain ⟨ji8, hji8⟩ : ∃ j_ : Int, (shl .u64 1 (ji4)) = j_ := ⟨_, rfl⟩
  replace H : (if (wrap64 (ji6)) = 0 then ((ff_least.f a0_0 a0_1).bind fun t143 => (some (Go.bits .and .u64 t142 (IntKind.u64.wrap ((ji8) - 1)), t143))) else ((ff_least.f a0_0 a0_1).bind fun t144 => (some (Go.bits .or .u64 (Go.bits .and .u64 t142 (IntKind.u64.wrap ((ji8) - 1))) (ji8), wrap64 ((wrap64 (t144 + (wrap64 (ji6)))) - 1))))) = some (r1, r2) := by first | (rw [hji8] at H; exact H) | (simp only [hji8] at H ⊢; exact H)
  (try rw [hji8] at A3)
  have hji8_ : (IntKind.u64.wrap (1 * 2 ^ min (ji4).toNat 64)) = ji8 := hji8
  have hji8z : (ji4) ≤ 64 → (IntKind.u64.wrap (1 * 2 ^ (ji4).toNat)) = ji8 := shl_small hji8
  have hji8u : (IntKind.u64.wrap (2 ^ min (ji4).toNat 64)) = ji8 := by have h_ := hji8_; rw [Int.one_mul] at h_; exact h_
  have hji8v : (ji4) ≤ 64 → (IntKind.u64.wrap (2 ^ (ji4).toNat)) = ji8 := fun hle_ => by have h_ := hji8z hle_; rw [Int.one_mul] at h_; exact h_
  by_cases c9 : (wrap64 (ji6)) = 0
  ·rw [if_pos c9] at H
   have c9b0 : ((wrap64 (ji6)) == 0) = true := beq_iff_eq.mpr c9
   have c9b1 : ((wrap64 (ji6)) != 0) = false := bne_eq_false_iff_eq.mpr c9
   clear c9
   replace H := zob H
   obtain ⟨t143, A100, H⟩ := H
   replace H : (some (Go.bits .and .u64 t142 (IntKind.u64.wrap ((ji8) - 1)), t143)) = some (r1, r2) := H
   have A10 := As0.mk A100
   clear A100
   simp only [Option.some.injEq, Prod.mk.injEq] at H
   obtain ⟨rfl, rfl⟩ := H
   go_enter Try.func57, Try.ntmps57
   go_wp2_with (first | ((with_reducible refine gate_dst (N := 2) rfl ?_); refine box_event ?hg (N := 2) ?hd (cs := #[.int .i64 a0_0, .int .i64 a0_1]) (t := 43) ?hr ?_; (case hd => rfl); (case hg => rfl); (case hr => first | (go_simp; done) | (go_simp; rfl)); intro gb141 hg w11 hbox hb; have n0_ := As0.mk (bst (by repeat (first | (with_reducible first | exact HB.out | apply bal | apply pwB_ | apply bd1) | exact HB.out)) hb); have n1_ := As0.mk (hbox); have n2_ := As0.mk ((by rw [hg]; exact (below_size (by repeat (first | (with_reducible first | exact HB.out | apply bal | apply pwB_ | apply bd1) | exact HB.out))) : w.heap.size ≤ gb141)); have n3_ := As0.mk ((by rw [hg]; exact (below_size (by repeat (first | (with_reducible first | exact HB.out | apply bal | apply pwB_ | apply bd1) | exact HB.out))) : w.heap.size ≤ gb141)); clear HB; have HB := n0_; have BK141 := n1_; have GW141 := n2_; have GE141 := n3_; clear n0_ n1_ n2_ n3_; clear hb hbox hg; have hcz12_0 : w11.cell? ⟨gb141, 0, none⟩ = some (.int .i64 a0_0) := (bce BK141.out 0).trans rfl; have hcz12_1 : w11.cell? ⟨gb141, 1, none⟩ = some (.int .i64 a0_1) := (bce BK141.out 1).trans rfl; have hfz12_0 := bkf BK141.out 0; have hfz12_1 := bkf BK141.out 1) | ((with_reducible refine gcl (f := 40) rfl ?_); refine goesL_ (some 11) rfl rfl Try.func40 (by kernel_rfl) rfl #[.agg #[.int .i64 a0_0, .int .i64 a0_1], .int .u64 a1] rfl (by (try simp only [zmt, zmc, zmn]); first | done | rfl) ?_; (with_reducible refine (ff_size.calls a0_0 a0_1 a1 t142 _ A3.out).mono ?_); rintro e w13 ⟨rfl, hb⟩; refine ⟨_, rfl, ?_⟩; have n0_ := As0.mk (bkb (g := gb141) (o := .cells #[.int .i64 a0_0, .int .i64 a0_1] 43 (0, 0)) (by (with_reducible repeat (first | refine bkN ?_ _ | refine bkd ?_ | refine bka ?_ _)); exact BK141.out) hb); have n1_ := As0.mk (bst (by repeat (first | (with_reducible first | exact HB.out | apply bal | apply pwB_ | apply bd1 | refine bse ?_ GE141.out) | exact HB.out)) hb); clear BK141; clear HB; have BK141 := n0_; have HB := n1_; clear n0_ n1_; (try clear hb); (try clear hb2); (try clear hk); (try clear hi); have hcz14_0 : w13.cell? ⟨gb141, 0, none⟩ = some (.int .i64 a0_0) := (bce BK141.out 0).trans rfl; have hcz14_1 : w13.cell? ⟨gb141, 1, none⟩ = some (.int .i64 a0_1) := (bce BK141.out 1).trans rfl; have hfz14_0 := bkf BK141.out 0; have hfz14_1 := bkf BK141.out 1) | ((with_reducible refine gcl (f := 64) rfl ?_); refine goesL_ (some 29) rfl rfl Try.func64 (by kernel_rfl) rfl #[.agg #[.int .i64 a0_0, .int .i64 a0_1]] rfl (by (try simp only [zmt, zmc, zmn]); first | done | rfl) ?_; (with_reducible refine (ff_least.calls a0_0 a0_1 t143 _ A10.out).mono ?_); rintro e w15 ⟨rfl, hb⟩; refine ⟨_, rfl, ?_⟩; have n0_ := As0.mk (bkb (g := gb141) (o := .cells #[.int .i64 a0_0, .int .i64 a0_1] 43 (0, 0)) (by (with_reducible repeat (first | refine bkN ?_ _ | refine bkd ?_ | refine bka ?_ _)); exact BK141.out) hb); have n1_ := As0.mk (bst (by repeat (first | (with_reducible first | exact HB.out | apply bal | apply pwB_ | apply bd1 | refine bse ?_ GE141.out) | exact HB.out)) hb); clear BK141; clear HB; have BK141 := n0_; have HB := n1_; clear n0_ n1_; (try clear hb); (try clear hb2); (try clear hk); (try clear hi)))
   go_ret2
   exact ⟨by first | rfl | (simp only [← hji4, ← hji6, ← hji8]; first | rfl) | (simp [*] <;> rfl), by repeat (first | (with_reducible first | exact HB.out | apply bal | apply pwB_ | apply bd1 | refine bse ?_ GE141.out) | exact HB.out)⟩
  ·rw [if_neg c9] at H
   have c9b0 : ((wrap64 (ji6)) == 0) = false := beq_eq_false_iff_ne.mpr c9
   have c9b1 : ((wrap64 (ji6)) != 0) = true := bne_iff_ne.mpr c9
   have c16b0 := eq_true (of_decide_eq_true (by first | (with_reducible assumption) | assumption) : 0 ≤ (ji4))
   replace H := zob H
   obtain ⟨t144, A180, H⟩ := H
   replace H : (some (Go.bits .or .u64 (Go.bits .and .u64 t142 (IntKind.u64.wrap ((ji8) - 1))) (ji8), wrap64 ((wrap64 (t144 + (wrap64 (ji6)))) - 1))) = some (r1, r2) := H
   have A18 := As0.mk A180
   clear A180
   simp only [Option.some.injEq, Prod.mk.injEq] at H
   obtain ⟨rfl, rfl⟩ := H
   go_enter Try.func57, Try.ntmps57
   try go_wp2_with (first | ((with_reducible refine gate_dst (N := 2) rfl ?_); refine box_event ?hg (N := 2) ?hd (cs := #[.int .i64 a0_0, .int .i64 a0_1]) (t := 43) ?hr ?_; (case hd => rfl); (case hg => rfl); (case hr => first | (go_simp; done) | (go_simp; rfl)); intro gb141 hg w19 hbox hb; have n0_ := As0.mk (bst (by repeat (first | (with_reducible first | exact HB.out | apply bal | apply pwB_ | apply bd1) | exact HB.out)) hb); have n1_ := As0.mk (hbox); have n2_ := As0.mk ((by rw [hg]; exact (below_size (by repeat (first | (with_reducible first | exact HB.out | apply bal | apply pwB_ | apply bd1) | exact HB.out))) : w.heap.size ≤ gb141)); have n3_ := As0.mk ((by rw [hg]; exact (below_size (by repeat (first | (with_reducible first | exact HB.out | apply bal | apply pwB_ | apply bd1) | exact HB.out))) : w.heap.size ≤ gb141)); clear HB; have HB := n0_; have BK141 := n1_; have GW141 := n2_; have GE141 := n3_; clear n0_ n1_ n2_ n3_; clear hb hbox hg; have hcz20_0 : w19.cell? ⟨gb141, 0, none⟩ = some (.int .i64 a0_0) := (bce BK141.out 0).trans rfl; have hcz20_1 : w19.cell? ⟨gb141, 1, none⟩ = some (.int .i64 a0_1) := (bce BK141.out 1).trans rfl; have hfz20_0 := bkf BK141.out 0; have hfz20_1 := bkf BK141.out 1) | ((with_reducible refine gcl (f := 40) rfl ?_); refine goesL_ (some 11) rfl rfl Try.func40 (by kernel_rfl) rfl #[.agg #[.int .i64 a0_0, .int .i64 a0_1], .int .u64 a1] rfl (by (try simp only [zmt, zmc, zmn]); first | done | rfl) ?_; (with_reducible refine (ff_size.calls a0_0 a0_1 a1 t142 _ A3.out).mono ?_); rintro e w21 ⟨rfl, hb⟩; refine ⟨_, rfl, ?_⟩; have n0_ := As0.mk (bkb (g := gb141) (o := .cells #[.int .i64 a0_0, .int .i64 a0_1] 43 (0, 0)) (by (with_reducible repeat (first | refine bkN ?_ _ | refine bkd ?_ | refine bka ?_ _)); exact BK141.out) hb); have n1_ := As0.mk (bst (by repeat (first | (with_reducible first | exact HB.out | apply bal | apply pwB_ | apply bd1 | refine bse ?_ GE141.out) | exact HB.out)) hb); clear BK141; clear HB; have BK141 := n0_; have HB := n1_; clear n0_ n1_; (try clear hb); (try clear hb2); (try clear hk); (try clear hi); have hcz22_0 : w21.cell? ⟨gb141, 0, none⟩ = some (.int .i64 a0_0) := (bce BK141.out 0).trans rfl; have hcz22_1 : w21.cell? ⟨gb141, 1, none⟩ = some (.int .i64 a0_1) := (bce BK141.out 1).trans rfl; have hfz22_0 := bkf BK141.out 0; have hfz22_1 := bkf BK141.out 1))
   have n0_ := As0.mk (bkd BK141.out)
   have n1_ := As0.mk (bd1 HB.out)
   clear BK141
   clear HB
   have BK141 := n0_
   have HB := n1_
   clear n0_ n1_
   refine start_ (n := 13) (S := fun w' => w'.cell? ⟨gb141, 0, none⟩ = some (.int .i64 a0_0) ∧ w'.cell? ⟨gb141, 1, none⟩ = some (.int .i64 a0_1)) (ds := []) #[false, false, false, false, false, false, false, false, false, false, false, false, false] (by kernel_rfl) rfl rfl ⟨(bce BK141.out 0).trans rfl, (bce BK141.out 1).trans rfl⟩ (fun hHeld => ?_); refine with_tabW ff_parts.tab6 ff_parts.bits6 (fun HT_ HW_ => ?_)
   generalize w21.drew = w23 at BK141 HB hHeld ⊢
   refine pure_ (i := 0) (N := some 30) (v := ?_) (a' := ?_) #[true, false, false, false, false, false, false, false, false, false, false, false, false] rfl rfl (any_of HT_.out (by kernel_rfl)) (fun _ _ _ h => h) (Or.inl ⟨by rfl, ?_⟩) ?_ ?_
   rotate_left
   ·intro w'
    go_simp
    with_reducible rfl
   rotate_left
   ·simp only [Act.put, zsi, zcz, zcs, i64_w, i32_w]
    rfl
   refine pure_ (i := 1) (N := some 31) (v := ?_) (a' := ?_) #[true, true, false, false, false, false, false, false, false, false, false, false, false] rfl rfl (any_of HT_.out (by kernel_rfl)) (fun _ _ _ h => h) (Or.inl ⟨by rfl, ?_⟩) ?_ ?_
   rotate_left
   ·intro w'
    go_simp
    with_reducible rfl
   rotate_left
   ·simp only [Act.put, zsi, zcz, zcs, i64_w, i32_w]
    rfl
   refine pure_ (i := 8) (N := some 38) (v := ?_) (a' := ?_) #[true, true, false, false, false, false, false, false, true, false, false, false, false] rfl rfl (any_of HT_.out (by kernel_rfl)) (fun _ _ _ h => h) (Or.inl ⟨by rfl, ?_⟩) ?_ ?_
   rotate_left
   ·intro w'
    go_simp
    with_reducible rfl
   rotate_left
   ·simp only [Act.put, zsi, zcz, zcs, i64_w, i32_w]
    rfl
   refine take_ (i := 2) (N := some 32) (v := ?_) (a' := ?_) #[true, true, true, false, false, false, false, false, true, false, false, false, false] rfl rfl (take_ofW HT_.out HW_.out (by kernel_rfl)) (fun _ _ _ h => h) (Or.inl ⟨by rfl, ?_⟩) hHeld ?_ ?_
   rotate_left
   ·rintro w' ⟨s0, s1⟩
    go_simp
    with_reducible rfl
   rotate_left
   ·simp only [Act.put, zsi, zcz, zcs, i64_w, i32_w]
    rfl
   refine pure_ (i := 3) (N := some 33) (v := ?_) (a' := ?_) #[true, true, true, true, false, false, false, false, true, false, false, false, false] rfl rfl (any_of HT_.out (by kernel_rfl)) (fun _ _ _ h => h) (Or.inl ⟨by rfl, ?_⟩) ?_ ?_
   rotate_left
   ·intro w'
    go_simp
    with_reducible rfl
   rotate_left
   ·simp only [Act.put, zsi, zcz, zcs, i64_w, i32_w]
    rfl
   refine pure_ (i := 4) (N := some 34) (v := ?_) (a' := ?_) #[true, true, true, true, true, false, false, false, true, false, false, false, false] rfl rfl (any_of HT_.out (by kernel_rfl)) (fun _ _ _ h => h) (Or.inl ⟨by rfl, ?_⟩) ?_ ?_
   rotate_left
   ·intro w'
    go_simp
    with_reducible rfl
   rotate_left
   ·simp only [Act.put, zsi, zcz, zcs, i64_w, i32_w]
    rfl
   refine pure_ (i := 5) (N := some 35) (v := ?_) (a' := ?_) #[true, true, true, true, true, true, false, false, true, false, false, false, false] rfl rfl (any_of HT_.out (by kernel_rfl)) (fun _ _ _ h => h) (Or.inl ⟨by rfl, ?_⟩) ?_ ?_
   rotate_left
   ·intro w'
    go_simp
    with_reducible rfl
   rotate_left
   ·simp only [Act.put, zsi, zcz, zcs, i64_w, i32_w]
    rfl
   refine take_ (i := 6) (N := some 36) (v := ?_) (a' := ?_) #[true, true, true, true, true, true, true, false, true, false, false, false, false] rfl rfl (take_ofW HT_.out HW_.out (by kernel_rfl)) (fun _ _ _ h => h) (Or.inl ⟨by rfl, ?_⟩) hHeld ?_ ?_
   rotate_left
   ·rintro w' ⟨s0, s1⟩
    go_simp
    with_reducible rfl
   rotate_left
   ·simp only [Act.put, zsi, zcz, zcs, i64_w, i32_w]
    rfl
   refine one_ (i := 7) (N := some 37) #[true, true, true, true, true, true, true, true, true, false, false, false, false] rfl rfl (one_of HT_.out (by kernel_rfl)) (by decide) (fun K hK => ?_)
   refine goes_ Try.func64 (by kernel_rfl) rfl #[.agg #[.int .i64 a0_0, .int .i64 a0_1]] (by rfl) rfl rfl (by (try simp only [zmt, zmc, zmn]); first | done | rfl) ?_
   with_reducible refine (ff_least.calls a0_0 a0_1 t144 _ A18.out).mono ?_
   rintro e w24 ⟨rfl, hb⟩
   refine ⟨_, rfl, ?_⟩
   have n0_ := As0.mk (bkb (g := gb141) (o := .cells #[.int .i64 a0_0, .int .i64 a0_1] 43 (0, 0)) (by (with_reducible repeat (first | refine bkN ?_ _ | refine bkd ?_ | refine bka ?_ _)); exact BK141.out) hb)
   have n1_ := As0.mk (bst (by repeat (first | (with_reducible first | exact HB.out | apply bal | apply pwB_ | apply bd1 | refine bse ?_ GE141.out) | exact HB.out)) hb)
   clear BK141
   clear HB
   have BK141 := n0_
   have HB := n1_
   clear n0_ n1_
   (try clear hb)
   (try clear hb2)
   (try clear hk)
   (try clear hi)
   refine hK.out _ _ ⟨(bce BK141.out 0).trans rfl, (bce BK141.out 1).trans rfl⟩ (fun hHeld => ?_)
   clear hK K
   refine norm_ (a' := ?_) ?_ ?_
   rotate_left
   ·show Act.put _ (some 37) _ = _
    simp only [Act.put, zsi, zcz, zcs, i64_w, i32_w]
    rfl
   refine pure_ (i := 9) (N := some 39) (v := ?_) (a' := ?_) #[true, true, true, true, true, true, true, true, true, true, false, false, false] rfl rfl (any_of HT_.out (by kernel_rfl)) (fun _ _ _ h => h) (Or.inl ⟨by rfl, ?_⟩) ?_ ?_
   rotate_left
   ·intro w'
    go_simp
    with_reducible rfl
   rotate_left
   ·simp only [Act.put, zsi, zcz, zcs, i64_w, i32_w]
    rfl
   refine pure_ (i := 10) (N := some 40) (v := ?_) (a' := ?_) #[true, true, true, true, true, true, true, true, true, true, true, false, false] rfl rfl (any_of HT_.out (by kernel_rfl)) (fun _ _ _ h => h) (Or.inl ⟨by rfl, ?_⟩) ?_ ?_
   rotate_left
   ·intro w'
    go_simp
    with_reducible rfl
   rotate_left
   ·simp only [Act.put, zsi, zcz, zcs, i64_w, i32_w]
    rfl
   refine pure_ (i := 11) (N := some 4) (v := ?_) (a' := ?_) #[true, true, true, true, true, true, true, true, true, true, true, true, false] rfl rfl (any_of HT_.out (by kernel_rfl)) (fun _ _ _ h => h) (Or.inl ⟨by rfl, ?_⟩) ?_ ?_
   rotate_left
   ·intro w'
    go_simp
    with_reducible rfl
   rotate_left
   ·simp only [Act.put, zsi, zcz, zcs, i64_w, i32_w]
    rfl
   refine pure_ (i := 12) (N := some 5) (v := ?_) (a' := ?_) #[true, true, true, true, true, true, true, true, true, true, true, true, true] rfl rfl (any_of HT_.out (by kernel_rfl)) (fun _ _ _ h => h) (Or.inl ⟨by rfl, ?_⟩) ?_ ?_
   rotate_left
   ·intro w'
    go_simp
    with_reducible rfl
   rotate_left
   ·simp only [Act.put, zsi, zcz, zcs, i64_w, i32_w]
    rfl
   refine done_ (done_of HT_.out (by kernel_rfl)) ?_
   try go_wp2
   go_ret2
   exact ⟨by first | rfl | (simp only [← hji4, ← hji6, ← hji8]; first | rfl) | (simp [*] <;> rfl), by repeat (first | (with_reducible first | exact HB.out | apply bal | apply pwB_ | apply bd1 | refine bse ?_ GE141.out) | exact HB.out)⟩
 ·rw [if_neg c5] at H
  exact absurd H (by simp)
def floats_jam.f (a0 : Int) (a1 : Int) : Option (Int) := if a1 > 63 then (if (IntKind.u64.wrap ((a0 / 9223372036854775808) * 9223372036854775808)) = a0 then (some (a0 / 9223372036854775808)) else (some (Go.bits .or .u64 (a0 / 9223372036854775808) 1))) else (if 0 ≤ (IntKind.u64.wrap (a1)) then (if (shl .u64 (shr .u64 a0 (IntKind.u64.wrap (a1))) (IntKind.u64.wrap (a1))) = a0 then (some (shr .u64 a0 (IntKind.u64.wrap (a1)))) else (some (Go.bits .or .u64 (shr .u64 a0 (IntKind.u64.wrap (a1))) 1))) else (none))
set_option maxHeartbeats 8000000 in
set_option maxRecDepth 100000 in
theorem floats_jam.calls (a0 : Int) (a1 : Int) (r : Int) (w : World) (h : floats_jam.f a0 a1 = some r) :
  Calls Try.prog 65 #[.int .u64 a0, .int .i64 a1] w fun e w' => e = .returned (.int .u64 r) ∧ Drawn0 w w' := by
 have H : (if a1 > 63 then (if (IntKind.u64.wrap ((a0 / 9223372036854775808) * 9223372036854775808)) = a0 then (some (a0 / 9223372036854775808)) else (some (Go.bits .or .u64 (a0 / 9223372036854775808) 1))) else (if 0 ≤ (IntKind.u64.wrap (a1)) then (if (shl .u64 (shr .u64 a0 (IntKind.u64.wrap (a1))) (IntKind.u64.wrap (a1))) = a0 then (some (shr .u64 a0 (IntKind.u64.wrap (a1)))) else (some (Go.bits .or .u64 (shr .u64 a0 (IntKind.u64.wrap (a1))) 1))) else (none))) = some r := h
 clear h
 by_cases c3 : a1 > 63
 ·rw [if_pos c3] at H
  have c3b0 : decide (63 < a1) = true := decide_eq_true c3
  clear c3
  by_cases c4 : (IntKind.u64.wrap ((a0 / 9223372036854775808) * 9223372036854775808)) = a0
  ·rw [if_pos c4] at H
   have c4b0 : ((IntKind.u64.wrap ((a0 / 9223372036854775808) * 9223372036854775808)) == a0) = true := beq_iff_eq.mpr c4
   have c4b1 : ((IntKind.u64.wrap ((a0 / 9223372036854775808) * 9223372036854775808)) != a0) = false := bne_eq_false_iff_eq.mpr c4
   clear c4
   obtain rfl := Option.some.inj H
   go_enter Try.func65, Try.ntmps65
   go_wp2
   go_ret
   exact ⟨by first | rfl | (simp; done) | (simp [*]; done), by repeat (first | exact Drawn0.refl _ | apply Drawn0.step)⟩
  ·rw [if_neg c4] at H
   have c4b0 : ((IntKind.u64.wrap ((a0 / 9223372036854775808) * 9223372036854775808)) == a0) = false := beq_eq_false_iff_ne.mpr c4
   have c4b1 : ((IntKind.u64.wrap ((a0 / 9223372036854775808) * 9223372036854775808)) != a0) = true := bne_iff_ne.mpr c4
   obtain rfl := Option.some.inj H
   go_enter Try.func65, Try.ntmps65
   go_wp2
   go_ret
   exact ⟨by first | rfl | (simp; done) | (simp [*]; done), by repeat (first | exact Drawn0.refl _ | apply Drawn0.step)⟩
 ·rw [if_neg c3] at H
  have c3b0 : decide (63 < a1) = false := decide_eq_false c3
  clear c3
  obtain ⟨ji5, hji5⟩ : ∃ j_ : Int, (IntKind.u64.wrap (a1)) = j_ := ⟨_, rfl⟩
  replace H : (if 0 ≤ (ji5) then (if (shl .u64 (shr .u64 a0 (ji5)) (ji5)) = a0 then (some (shr .u64 a0 (ji5))) else (some (Go.bits .or .u64 (shr .u64 a0 (ji5)) 1))) else (none)) = some r := by first | (rw [hji5] at H; exact H) | (simp only [hji5] at H ⊢; exact H)
  by_cases c6 : 0 ≤ (ji5)
  ·rw [if_pos c6] at H
   have c6b0 := eq_true c6
   have c6b1 : decide (0 ≤ (ji5)) = true := decide_eq_true c6
   clear c6
   obtain ⟨ji7, hji7⟩ : ∃ j_ : Int, (shr .u64 a0 (ji5)) = j_ := ⟨_, rfl⟩
   replace H : (if (shl .u64 (ji7) (ji5)) = a0 then (some ji7) else (some (Go.bits .or .u64 (ji7) 1))) = some r := by first | (rw [hji7] at H; exact H) | (simp only [hji7] at H ⊢; exact H)
   have hji7_ : (a0 / 2 ^ min (ji5).toNat 64) = ji7 := hji7
   have hji7z : (ji5) ≤ 64 → (a0 / 2 ^ (ji5).toNat) = ji7 := shr_small hji7
   have c8b0 := eq_true (of_decide_eq_true (by first | (with_reducible assumption) | assumption) : 0 ≤ (ji5))
   obtain ⟨ji9, hji9⟩ : ∃ j_ : Int, (shl .u64 (ji7) (ji5)) = j_ := ⟨_, rfl⟩
   replace H : (if (ji9) = a0 then (some ji7) else (some (Go.bits .or .u64 (ji7) 1))) = some r := by first | (rw [hji9] at H; exact H) | (simp only [hji9] at H ⊢; exact H)
   have hji9_ : (IntKind.u64.wrap ((ji7) * 2 ^ min (ji5).toNat 64)) = ji9 := hji9
   have hji9z : (ji5) ≤ 64 → (IntKind.u64.wrap ((ji7) * 2 ^ (ji5).toNat)) = ji9 := shl_small hji9
   by_cases c10 : (ji9) = a0
   ·rw [if_pos c10] at H
    have c10b0 : ((ji9) == a0) = true := beq_iff_eq.mpr c10
    have c10b1 : ((ji9) != a0) = false := bne_eq_false_iff_eq.mpr c10
    clear c10
    obtain rfl := Option.some.inj H
    go_enter Try.func65, Try.ntmps65
    go_wp2
    go_ret
    exact ⟨by first | rfl | (simp; done) | (simp only [← hji5, ← hji7, ← hji9] <;> (first | rfl | simp)) | (simp [*]; done), by repeat (first | exact Drawn0.refl _ | apply Drawn0.step)⟩
   ·rw [if_neg c10] at H
    have c10b0 : ((ji9) == a0) = false := beq_eq_false_iff_ne.mpr c10
    have c10b1 : ((ji9) != a0) = true := bne_iff_ne.mpr c10
    obtain rfl := Option.some.inj H
    go_enter Try.func65, Try.ntmps65
    go_wp2
    go_ret
    exact ⟨by first | rfl | (simp; done) | (simp only [← hji5, ← hji7, ← hji9] <;> (first | rfl | simp)) | (simp [*]; done), by repeat (first | exact Drawn0.refl _ | apply Drawn0.step)⟩
  ·rw [if_neg c6] at H
   exact absurd H (by simp)
end Go.Proofs.Ytjfmomogidgbpaa.PFl
