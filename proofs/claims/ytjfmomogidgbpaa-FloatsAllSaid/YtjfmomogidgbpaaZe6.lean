/-
  The program's small functions over formats, in closed form: signs, sizes, parts. No condition but that a word is one.
  The program's rounding, in closed form: the float nearest to a number times a power of 2, and perhaps a little more. No condition but the code's own.
  The program's parts, jamming, order and sum, in closed form. No condition but that a word is one.
  The program's product and quotient, in closed form: the whole products and quotients of math/bits, and what is rounded of them. No condition but that a word is one.
  The program's quotient, its lesser and greater one, and its Bin, in closed form. No condition but that a word is one.
  The program's Bin, in closed form. No condition but that a word is one.
  The document's examples, reckoned; the reference's Bin at a word's bits.
  The program's Kind, Canonical and Rel, in closed form. No condition but that a word is one.
  The program's Un, in closed form: the root by pairs of bits, the whole number, the rest. No condition but that a word is one.
  The program's root, its whole numbers and Un, in closed form. No condition but that a word is one.
  The plain law of FloatsAll: every operation on any two, on one, and every comparison, of either size, is the reference's. No condition.
-/
import Derived.OpenShut
import Derived.Test.YtjfmomogidgbpaaZe0
import Derived.Test.YtjfmomogidgbpaaZe1
import Derived.Test.YtjfmomogidgbpaaZe2
import Derived.Test.YtjfmomogidgbpaaZe3
import Derived.Test.YtjfmomogidgbpaaZe4
import Derived.Test.YtjfmomogidgbpaaZe5
namespace Go.Proofs.Ytjfmomogidgbpaa.PFm
open Go.RowKit Go.Proofs.Ytjfmomogidgbpaa.PFl Go.Proofs.YtjfmomogidgbpaaW.PrintWords Go.Proofs.YtjfmomogidgbpaaW.PrintLast Go.Proofs.YtjfmomogidgbpaaW.PrintMore
attribute [local go_sem] max2_int min2_int max_two min_two max_three min_three max_four min_four
set_option linter.unusedVariables false
set_option linter.unusedSimpArgs false
mutual
def bl_FloatsAll.l0 : Nat → Int → Int → Int → Option (Bool)
 | 0, _, _, _ => none
 | k + 1, x0, x1, x6 => if x6 ≤ 64 then (bl_FloatsAll.l1 k x0 x1 x6 1) else (some true)
def bl_FloatsAll.l1 : Nat → Int → Int → Int → Int → Option (Bool)
 | 0, _, _, _, _ => none
 | k + 1, x0, x1, x6, x7 => if x7 ≤ 9 then ((floats_Bin.f k x6 x7 x0 x1).bind fun bt279 => ((br_Bin.f x6 x7 x0 x1).bind fun bt281 => (if bt279.1 = bt281.1 then (bl_FloatsAll.l1 k x0 x1 x6 (wrap64 (x7 + 1))) else (some false)))) else (bl_FloatsAll.l2 k x0 x1 x6 1)
def bl_FloatsAll.l2 : Nat → Int → Int → Int → Int → Option (Bool)
 | 0, _, _, _, _ => none
 | k + 1, x0, x1, x6, x12 => if x12 ≤ 7 then ((floats_Un.f k x6 x12 x0).bind fun bt283 => ((br_Un.f x6 x12 x0).bind fun bt285 => (if bt283.1 = bt285.1 then (bl_FloatsAll.l2 k x0 x1 x6 (wrap64 (x12 + 1))) else (some false)))) else (bl_FloatsAll.l3 k x0 x1 x6 1)
def bl_FloatsAll.l3 : Nat → Int → Int → Int → Int → Option (Bool)
 | 0, _, _, _, _ => none
 | k + 1, x0, x1, x6, x17 => if x17 ≤ 6 then ((floats_Rel.f k x6 x17 x0 x1).bind fun bt287 => ((br_Rel.f x6 x17 x0 x1).bind fun bt289 => (if (bt287.1 != bt289.1) = true then (some false) else (bl_FloatsAll.l3 k x0 x1 x6 (wrap64 (x17 + 1)))))) else (bl_FloatsAll.l0 k x0 x1 (wrap64 (x6 + 32)))
end
def bl_FloatsAll.f (k : Nat) (a0 : Int) (a1 : Int) : Option (Bool) := (bl_awake.f k).bind fun t278 => (if t278 = true then (bl_FloatsAll.l0 k a0 a1 32) else (some false))
theorem bl_FloatsAll.mono_l : ∀ k, (∀ y0 y1 y2, LeO (bl_FloatsAll.l0 k y0 y1 y2) (bl_FloatsAll.l0 (k + 1) y0 y1 y2)) ∧ (∀ y0 y1 y2 y3, LeO (bl_FloatsAll.l1 k y0 y1 y2 y3) (bl_FloatsAll.l1 (k + 1) y0 y1 y2 y3)) ∧ (∀ y0 y1 y2 y3, LeO (bl_FloatsAll.l2 k y0 y1 y2 y3) (bl_FloatsAll.l2 (k + 1) y0 y1 y2 y3)) ∧ (∀ y0 y1 y2 y3, LeO (bl_FloatsAll.l3 k y0 y1 y2 y3) (bl_FloatsAll.l3 (k + 1) y0 y1 y2 y3)) := by
 intro k
 induction k with
 | zero => exact ⟨fun _ _ _ r h => by simp [bl_FloatsAll.l0] at h, fun _ _ _ _ r h => by simp [bl_FloatsAll.l1] at h, fun _ _ _ _ r h => by simp [bl_FloatsAll.l2] at h, fun _ _ _ _ r h => by simp [bl_FloatsAll.l3] at h⟩
 | succ k ih =>
  obtain ⟨ih0, ih1, ih2, ih3⟩ := ih
  refine ⟨?_, ?_, ?_, ?_⟩
  ·intro y0 y1 y2
   unfold bl_FloatsAll.l0
   repeat' first
   | (with_reducible exact ih0 _ _ _)
   | (with_reducible exact ih1 _ _ _ _)
   | (with_reducible exact ih2 _ _ _ _)
   | (with_reducible exact ih3 _ _ _ _)
   | (with_reducible exact bl_awake.mono _)
   | (with_reducible exact floats_Bin.mono _ _ _ _ _)
   | (with_reducible exact floats_Rel.mono _ _ _ _ _)
   | (with_reducible exact floats_Un.mono _ _ _ _)
   | (with_reducible exact LeO.refl _)
   | (with_reducible exact LeO.none _)
   | (with_reducible refine LeO.ite ?_ ?_)
   | (with_reducible refine LeO.bind ?_ (fun _ => ?_))
   | exact ih0 _ _ _
   | exact ih1 _ _ _ _
   | exact ih2 _ _ _ _
   | exact ih3 _ _ _ _
   | exact bl_awake.mono _
   | exact floats_Bin.mono _ _ _ _ _
   | exact floats_Rel.mono _ _ _ _ _
   | exact floats_Un.mono _ _ _ _
   | exact LeO.none _
   | refine LeO.ite ?_ ?_
   | refine LeO.bind ?_ (fun _ => ?_)
  ·intro y0 y1 y2 y3
   unfold bl_FloatsAll.l1
   repeat' first
   | (with_reducible exact ih0 _ _ _)
   | (with_reducible exact ih1 _ _ _ _)
   | (with_reducible exact ih2 _ _ _ _)
   | (with_reducible exact ih3 _ _ _ _)
   | (with_reducible exact bl_awake.mono _)
   | (with_reducible exact floats_Bin.mono _ _ _ _ _)
   | (with_reducible exact floats_Rel.mono _ _ _ _ _)
   | (with_reducible exact floats_Un.mono _ _ _ _)
   | (with_reducible exact LeO.refl _)
   | (with_reducible exact LeO.none _)
   | (with_reducible refine LeO.ite ?_ ?_)
   | (with_reducible refine LeO.bind ?_ (fun _ => ?_))
   | exact ih0 _ _ _
   | exact ih1 _ _ _ _
   | exact ih2 _ _ _ _
   | exact ih3 _ _ _ _
   | exact bl_awake.mono _
   | exact floats_Bin.mono _ _ _ _ _
   | exact floats_Rel.mono _ _ _ _ _
   | exact floats_Un.mono _ _ _ _
   | exact LeO.none _
   | refine LeO.ite ?_ ?_
   | refine LeO.bind ?_ (fun _ => ?_)
  ·intro y0 y1 y2 y3
   unfold bl_FloatsAll.l2
   repeat' first
   | (with_reducible exact ih0 _ _ _)
   | (with_reducible exact ih1 _ _ _ _)
   | (with_reducible exact ih2 _ _ _ _)
   | (with_reducible exact ih3 _ _ _ _)
   | (with_reducible exact bl_awake.mono _)
   | (with_reducible exact floats_Bin.mono _ _ _ _ _)
   | (with_reducible exact floats_Rel.mono _ _ _ _ _)
   | (with_reducible exact floats_Un.mono _ _ _ _)
   | (with_reducible exact LeO.refl _)
   | (with_reducible exact LeO.none _)
   | (with_reducible refine LeO.ite ?_ ?_)
   | (with_reducible refine LeO.bind ?_ (fun _ => ?_))
   | exact ih0 _ _ _
   | exact ih1 _ _ _ _
   | exact ih2 _ _ _ _
   | exact ih3 _ _ _ _
   | exact bl_awake.mono _
   | exact floats_Bin.mono _ _ _ _ _
   | exact floats_Rel.mono _ _ _ _ _
   | exact floats_Un.mono _ _ _ _
   | exact LeO.none _
   | refine LeO.ite ?_ ?_
   | refine LeO.bind ?_ (fun _ => ?_)
  ·intro y0 y1 y2 y3
   unfold bl_FloatsAll.l3
   repeat' first
   | (with_reducible exact ih0 _ _ _)
   | (with_reducible exact ih1 _ _ _ _)
   | (with_reducible exact ih2 _ _ _ _)
   | (with_reducible exact ih3 _ _ _ _)
   | (with_reducible exact bl_awake.mono _)
   | (with_reducible exact floats_Bin.mono _ _ _ _ _)
   | (with_reducible exact floats_Rel.mono _ _ _ _ _)
   | (with_reducible exact floats_Un.mono _ _ _ _)
   | (with_reducible exact LeO.refl _)
   | (with_reducible exact LeO.none _)
   | (with_reducible refine LeO.ite ?_ ?_)
   | (with_reducible refine LeO.bind ?_ (fun _ => ?_))
   | exact ih0 _ _ _
   | exact ih1 _ _ _ _
   | exact ih2 _ _ _ _
   | exact ih3 _ _ _ _
   | exact bl_awake.mono _
   | exact floats_Bin.mono _ _ _ _ _
   | exact floats_Rel.mono _ _ _ _ _
   | exact floats_Un.mono _ _ _ _
   | exact LeO.none _
   | refine LeO.ite ?_ ?_
   | refine LeO.bind ?_ (fun _ => ?_)
theorem bl_FloatsAll.mono : ∀ a0 a1 k, LeO (bl_FloatsAll.f k a0 a1) (bl_FloatsAll.f (k + 1) a0 a1) := by
 intro a0 a1 k
 obtain ⟨ih0, ih1, ih2, ih3⟩ := bl_FloatsAll.mono_l k
 unfold bl_FloatsAll.f
 repeat' first
   | (with_reducible exact ih0 _ _ _)
   | (with_reducible exact ih1 _ _ _ _)
   | (with_reducible exact ih2 _ _ _ _)
   | (with_reducible exact ih3 _ _ _ _)
   | (with_reducible exact bl_awake.mono _)
   | (with_reducible exact floats_Bin.mono _ _ _ _ _)
   | (with_reducible exact floats_Rel.mono _ _ _ _ _)
   | (with_reducible exact floats_Un.mono _ _ _ _)
   | (with_reducible exact LeO.refl _)
   | (with_reducible exact LeO.none _)
   | (with_reducible refine LeO.ite ?_ ?_)
   | (with_reducible refine LeO.bind ?_ (fun _ => ?_))
   | exact ih0 _ _ _
   | exact ih1 _ _ _ _
   | exact ih2 _ _ _ _
   | exact ih3 _ _ _ _
   | exact bl_awake.mono _
   | exact floats_Bin.mono _ _ _ _ _
   | exact floats_Rel.mono _ _ _ _ _
   | exact floats_Un.mono _ _ _ _
   | exact LeO.none _
   | refine LeO.ite ?_ ?_
   | refine LeO.bind ?_ (fun _ => ?_)
set_option maxHeartbeats 8000000 in
set_option maxRecDepth 100000 in
theorem bl_FloatsAll.calls (k : Nat) (a0 : Int) (a1 : Int) (r : Bool) (w : World) (h : bl_FloatsAll.f k a0 a1 = some r) :
  Calls Try.prog 12 #[.int .u64 a0, .int .u64 a1] w fun e w' => e = .returned (.bool r) ∧ Below w.heap.size w w' := by
 have HB := As0.mk (Below.refl w.heap.size w)
 have H : ((bl_awake.f k).bind fun t278 => (if t278 = true then (bl_FloatsAll.l0 k a0 a1 32) else (some false))) = some r := h
 clear h
 replace H := zob H
 obtain ⟨t278, A30, H⟩ := H
 replace H : (if t278 = true then (bl_FloatsAll.l0 k a0 a1 32) else (some false)) = some r := H
 have A3 := As0.mk A30
 clear A30
 by_cases c4 : t278 = true
 ·subst c4
  have H1 : (bl_FloatsAll.l0 k a0 a1 32) = some r := by rw [if_pos rfl] at H; exact H
  clear H
  have H := H1
  clear H1
  have H' := As0.mk H
  clear H
  go_enter Try.func12, Try.ntmps12
  go_wp2_with (first | ((with_reducible refine gcl (f := 16) rfl ?_); refine goesL_ (some 22) rfl rfl Try.func16 (by kernel_rfl) rfl #[] rfl (by (try simp only [zmt, zmc, zmn]); first | done | rfl) ?_; (with_reducible refine (bl_awake.calls k  true _ A3.out).mono ?_); rintro e w5 ⟨rfl, hb⟩; refine ⟨_, rfl, ?_⟩; have n0_ := As0.mk (bst (by repeat (first | (with_reducible first | exact HB.out | apply bal | apply pwB_ | apply bd1) | exact HB.out)) hb); clear HB; have HB := n0_; clear n0_; (try clear hb); (try clear hb2); (try clear hk); (try clear hi)))
  go_loopg [6] k (fun kq v6 w' => ∃ (x6_1 : Int), v6 = .int .i64 x6_1 ∧ As0 (bl_FloatsAll.l0 kq a0 a1 x6_1 = some r) ∧ As0 (kq ≤ k) ∧ As0 (Below w.heap.size w w'))
  case atStart => exact ⟨(32), (by first | rfl | (simp; done) | (simp [*]; done)), H', ⟨Nat.le_refl _⟩, ⟨by repeat (first | (with_reducible first | exact HB.out | apply bal | apply pwB_ | apply bd1) | exact HB.out)⟩⟩
  case round =>
   clear H'
   try clear c1
   try clear p2
   try clear c4
   obtain ⟨x6_1, rfl, HA, HK1, HB⟩ := hrel
   cases gk with
   | zero => exact absurd HA.out (by simp [bl_FloatsAll.l0])
   | succ k1 =>
    have H := HA.out
    clear HA
    simp only [bl_FloatsAll.l0] at H
    by_cases c6 : x6_1 ≤ 64
    ·rw [if_pos c6] at H
     have c6b0 : decide (x6_1 ≤ 64) = true := decide_eq_true c6
     clear c6
     have H' := As0.mk H
     clear H
     go_wp2
     go_loopg [7] k1 (fun kq v7 w' => ∃ (x7_2 : Int), v7 = .int .i64 x7_2 ∧ As0 (bl_FloatsAll.l1 kq a0 a1 x6_1 x7_2 = some r) ∧ As0 (kq ≤ k1) ∧ As0 (Below w.heap.size w w'))
     case atStart => exact ⟨(1), (by first | rfl | (simp; done) | (simp [*]; done)), H', ⟨Nat.le_refl _⟩, ⟨by repeat (first | (with_reducible first | exact HB.out | apply bal | apply pwB_ | apply bd1) | exact HB.out)⟩⟩
     case round =>
      clear H'
      try clear c1
      try clear p2
      try clear c4
      try clear c6
      try clear c6b0
      try clear p2
      obtain ⟨x7_2, rfl, HA, HK2, HB⟩ := hrel
      cases gk with
      | zero => exact absurd HA.out (by simp [bl_FloatsAll.l1])
      | succ k2 =>
       have H := HA.out
       clear HA
       simp only [bl_FloatsAll.l1] at H
       by_cases c7 : x7_2 ≤ 9
       ·rw [if_pos c7] at H
        have c7b0 : decide (x7_2 ≤ 9) = true := decide_eq_true c7
        clear c7
        replace H := zob H
        obtain ⟨⟨t279, t280⟩, A80, H⟩ := H
        replace H : ((br_Bin.f x6_1 x7_2 a0 a1).bind fun bt281 => (if t279 = bt281.1 then (bl_FloatsAll.l1 k2 a0 a1 x6_1 (wrap64 (x7_2 + 1))) else (some false))) = some r := H
        have A8 := As0.mk A80
        clear A80
        replace H := zob H
        obtain ⟨⟨t281, t282⟩, A90, H⟩ := H
        replace H : (if t279 = t281 then (bl_FloatsAll.l1 k2 a0 a1 x6_1 (wrap64 (x7_2 + 1))) else (some false)) = some r := H
        have A9 := As0.mk A90
        clear A90
        by_cases c10 : t279 = t281
        ·rw [if_pos c10] at H
         have c10b0 : (t279 == t281) = true := beq_iff_eq.mpr c10
         have c10b1 : (t279 != t281) = false := bne_eq_false_iff_eq.mpr c10
         clear c10
         have H' := As0.mk H
         clear H
         go_wp2_with (first | ((with_reducible refine gcl (f := 19) rfl ?_); refine goesL_ (some 38) rfl rfl Try.func19 (by kernel_rfl) rfl #[.int .i64 x6_1, .int .i64 x7_2, .int .u64 a0, .int .u64 a1] rfl (by (try simp only [zmt, zmc, zmn]); first | done | rfl) ?_; (with_reducible refine (floats_Bin.calls k2 x6_1 x7_2 a0 a1 t279 t280 _ A8.out).mono ?_); rintro e w11 ⟨rfl, hb⟩; refine ⟨_, rfl, ?_⟩; have n0_ := As0.mk (bst (by repeat (first | (with_reducible first | exact HB.out | apply bal | apply pwB_ | apply bd1) | exact HB.out)) hb); clear HB; have HB := n0_; clear n0_; (try clear hb); (try clear hb2); (try clear hk); (try clear hi)) | ((with_reducible refine gcl (f := 24) rfl ?_); refine goesL_ (some 46) rfl rfl Try.func24 (by kernel_rfl) rfl #[.int .i64 x6_1, .int .i64 x7_2, .int .u64 a0, .int .u64 a1] rfl (by (try simp only [zmt, zmc, zmn]); first | done | rfl) ?_; (with_reducible refine (br_Bin.calls x6_1 x7_2 a0 a1 t281 t282 _ A9.out).mono ?_); rintro e w12 ⟨rfl, hb⟩; refine ⟨_, rfl, ?_⟩; have n0_ := As0.mk (bst (by repeat (first | (with_reducible first | exact HB.out | apply bal | apply pwB_ | apply bd1) | exact HB.out)) hb); clear HB; have HB := n0_; clear n0_; (try clear hb); (try clear hb2); (try clear hk); (try clear hi)))
         go_roundg k2
         case measure => have := HK1.out; have := HK2.out; omega
         case rel => exact ⟨(wrap64 (x7_2 + 1)), (by first | rfl | (simp; done) | (simp [*]; done)), H', ⟨by have := HK1.out; have := HK2.out; omega⟩, ⟨by repeat (first | (with_reducible first | exact HB.out | apply bal | apply pwB_ | apply bd1) | exact HB.out)⟩⟩
        ·rw [if_neg c10] at H
         have c10b0 : (t279 == t281) = false := beq_eq_false_iff_ne.mpr c10
         have c10b1 : (t279 != t281) = true := bne_iff_ne.mpr c10
         obtain rfl := Option.some.inj H
         go_wp2_with (first | ((with_reducible refine gcl (f := 19) rfl ?_); refine goesL_ (some 38) rfl rfl Try.func19 (by kernel_rfl) rfl #[.int .i64 x6_1, .int .i64 x7_2, .int .u64 a0, .int .u64 a1] rfl (by (try simp only [zmt, zmc, zmn]); first | done | rfl) ?_; (with_reducible refine (floats_Bin.calls k2 x6_1 x7_2 a0 a1 t279 t280 _ A8.out).mono ?_); rintro e w13 ⟨rfl, hb⟩; refine ⟨_, rfl, ?_⟩; have n0_ := As0.mk (bst (by repeat (first | (with_reducible first | exact HB.out | apply bal | apply pwB_ | apply bd1) | exact HB.out)) hb); clear HB; have HB := n0_; clear n0_; (try clear hb); (try clear hb2); (try clear hk); (try clear hi)) | ((with_reducible refine gcl (f := 24) rfl ?_); refine goesL_ (some 46) rfl rfl Try.func24 (by kernel_rfl) rfl #[.int .i64 x6_1, .int .i64 x7_2, .int .u64 a0, .int .u64 a1] rfl (by (try simp only [zmt, zmc, zmn]); first | done | rfl) ?_; (with_reducible refine (br_Bin.calls x6_1 x7_2 a0 a1 t281 t282 _ A9.out).mono ?_); rintro e w14 ⟨rfl, hb⟩; refine ⟨_, rfl, ?_⟩; have n0_ := As0.mk (bst (by repeat (first | (with_reducible first | exact HB.out | apply bal | apply pwB_ | apply bd1) | exact HB.out)) hb); clear HB; have HB := n0_; clear n0_; (try clear hb); (try clear hb2); (try clear hk); (try clear hi)))
         go_ret
         exact ⟨by first | rfl | (simp [*] <;> rfl), by repeat (first | (with_reducible first | exact HB.out | apply bal | apply pwB_ | apply bd1) | exact HB.out)⟩
       ·rw [if_neg c7] at H
        have c7b0 : decide (x7_2 ≤ 9) = false := decide_eq_false c7
        clear c7
        have H' := As0.mk H
        clear H
        go_wp2
        go_loopg [12] k2 (fun kq v12 w' => ∃ (x12_3 : Int), v12 = .int .i64 x12_3 ∧ As0 (bl_FloatsAll.l2 kq a0 a1 x6_1 x12_3 = some r) ∧ As0 (kq ≤ k2) ∧ As0 (Below w.heap.size w w'))
        case atStart => exact ⟨(1), (by first | rfl | (simp; done) | (simp [*]; done)), H', ⟨Nat.le_refl _⟩, ⟨by repeat (first | (with_reducible first | exact HB.out | apply bal | apply pwB_ | apply bd1) | exact HB.out)⟩⟩
        case round =>
         clear H'
         try clear c1
         try clear c2
         try clear p2
         try clear c4
         try clear c6
         try clear c6b0
         try clear p6
         try clear c7
         try clear c7b0
         try clear c10
         try clear c10b0
         try clear c10b1
         try clear c12
         try clear p2
         obtain ⟨x12_3, rfl, HA, HK3, HB⟩ := hrel
         cases gk with
         | zero => exact absurd HA.out (by simp [bl_FloatsAll.l2])
         | succ k3 =>
          have H := HA.out
          clear HA
          simp only [bl_FloatsAll.l2] at H
          by_cases c15 : x12_3 ≤ 7
          ·rw [if_pos c15] at H
           have c15b0 : decide (x12_3 ≤ 7) = true := decide_eq_true c15
           clear c15
           replace H := zob H
           obtain ⟨⟨t283, t284⟩, A160, H⟩ := H
           replace H : ((br_Un.f x6_1 x12_3 a0).bind fun bt285 => (if t283 = bt285.1 then (bl_FloatsAll.l2 k3 a0 a1 x6_1 (wrap64 (x12_3 + 1))) else (some false))) = some r := H
           have A16 := As0.mk A160
           clear A160
           replace H := zob H
           obtain ⟨⟨t285, t286⟩, A170, H⟩ := H
           replace H : (if t283 = t285 then (bl_FloatsAll.l2 k3 a0 a1 x6_1 (wrap64 (x12_3 + 1))) else (some false)) = some r := H
           have A17 := As0.mk A170
           clear A170
           by_cases c18 : t283 = t285
           ·rw [if_pos c18] at H
            have c18b0 : (t283 == t285) = true := beq_iff_eq.mpr c18
            have c18b1 : (t283 != t285) = false := bne_eq_false_iff_eq.mpr c18
            clear c18
            have H' := As0.mk H
            clear H
            go_wp2_with (first | ((with_reducible refine gcl (f := 20) rfl ?_); refine goesL_ (some 60) rfl rfl Try.func20 (by kernel_rfl) rfl #[.int .i64 x6_1, .int .i64 x12_3, .int .u64 a0] rfl (by (try simp only [zmt, zmc, zmn]); first | done | rfl) ?_; (with_reducible refine (floats_Un.calls k3 x6_1 x12_3 a0 t283 t284 _ A16.out).mono ?_); rintro e w19 ⟨rfl, hb⟩; refine ⟨_, rfl, ?_⟩; have n0_ := As0.mk (bst (by repeat (first | (with_reducible first | exact HB.out | apply bal | apply pwB_ | apply bd1) | exact HB.out)) hb); clear HB; have HB := n0_; clear n0_; (try clear hb); (try clear hb2); (try clear hk); (try clear hi)) | ((with_reducible refine gcl (f := 30) rfl ?_); refine goesL_ (some 67) rfl rfl Try.func30 (by kernel_rfl) rfl #[.int .i64 x6_1, .int .i64 x12_3, .int .u64 a0] rfl (by (try simp only [zmt, zmc, zmn]); first | done | rfl) ?_; (with_reducible refine (br_Un.calls x6_1 x12_3 a0 t285 t286 _ A17.out).mono ?_); rintro e w20 ⟨rfl, hb⟩; refine ⟨_, rfl, ?_⟩; have n0_ := As0.mk (bst (by repeat (first | (with_reducible first | exact HB.out | apply bal | apply pwB_ | apply bd1) | exact HB.out)) hb); clear HB; have HB := n0_; clear n0_; (try clear hb); (try clear hb2); (try clear hk); (try clear hi)))
            go_roundg k3
            case measure => have := HK1.out; have := HK2.out; have := HK3.out; omega
            case rel => exact ⟨(wrap64 (x12_3 + 1)), (by first | rfl | (simp; done) | (simp [*]; done)), H', ⟨by have := HK1.out; have := HK2.out; have := HK3.out; omega⟩, ⟨by repeat (first | (with_reducible first | exact HB.out | apply bal | apply pwB_ | apply bd1) | exact HB.out)⟩⟩
           ·rw [if_neg c18] at H
            have c18b0 : (t283 == t285) = false := beq_eq_false_iff_ne.mpr c18
            have c18b1 : (t283 != t285) = true := bne_iff_ne.mpr c18
            obtain rfl := Option.some.inj H
            go_wp2_with (first | ((with_reducible refine gcl (f := 20) rfl ?_); refine goesL_ (some 60) rfl rfl Try.func20 (by kernel_rfl) rfl #[.int .i64 x6_1, .int .i64 x12_3, .int .u64 a0] rfl (by (try simp only [zmt, zmc, zmn]); first | done | rfl) ?_; (with_reducible refine (floats_Un.calls k3 x6_1 x12_3 a0 t283 t284 _ A16.out).mono ?_); rintro e w21 ⟨rfl, hb⟩; refine ⟨_, rfl, ?_⟩; have n0_ := As0.mk (bst (by repeat (first | (with_reducible first | exact HB.out | apply bal | apply pwB_ | apply bd1) | exact HB.out)) hb); clear HB; have HB := n0_; clear n0_; (try clear hb); (try clear hb2); (try clear hk); (try clear hi)) | ((with_reducible refine gcl (f := 30) rfl ?_); refine goesL_ (some 67) rfl rfl Try.func30 (by kernel_rfl) rfl #[.int .i64 x6_1, .int .i64 x12_3, .int .u64 a0] rfl (by (try simp only [zmt, zmc, zmn]); first | done | rfl) ?_; (with_reducible refine (br_Un.calls x6_1 x12_3 a0 t285 t286 _ A17.out).mono ?_); rintro e w22 ⟨rfl, hb⟩; refine ⟨_, rfl, ?_⟩; have n0_ := As0.mk (bst (by repeat (first | (with_reducible first | exact HB.out | apply bal | apply pwB_ | apply bd1) | exact HB.out)) hb); clear HB; have HB := n0_; clear n0_; (try clear hb); (try clear hb2); (try clear hk); (try clear hi)))
            go_ret
            exact ⟨by first | rfl | (simp [*] <;> rfl), by repeat (first | (with_reducible first | exact HB.out | apply bal | apply pwB_ | apply bd1) | exact HB.out)⟩
          ·rw [if_neg c15] at H
           have c15b0 : decide (x12_3 ≤ 7) = false := decide_eq_false c15
           clear c15
           have H' := As0.mk H
           clear H
           go_wp2
           go_loopg [17] k3 (fun kq v17 w' => ∃ (x17_4 : Int), v17 = .int .i64 x17_4 ∧ As0 (bl_FloatsAll.l3 kq a0 a1 x6_1 x17_4 = some r) ∧ As0 (kq ≤ k3) ∧ As0 (Below w.heap.size w w'))
           case atStart => exact ⟨(1), (by first | rfl | (simp; done) | (simp [*]; done)), H', ⟨Nat.le_refl _⟩, ⟨by repeat (first | (with_reducible first | exact HB.out | apply bal | apply pwB_ | apply bd1) | exact HB.out)⟩⟩
           case round =>
            clear H'
            try clear c1
            try clear c2
            try clear p2
            try clear c3
            try clear c4
            try clear c6
            try clear c6b0
            try clear p6
            try clear c7
            try clear c7b0
            try clear c10
            try clear c10b0
            try clear c10b1
            try clear c12
            try clear c15
            try clear c15b0
            try clear c16
            try clear c18
            try clear c18b0
            try clear c18b1
            try clear c19
            try clear c20
            try clear p2
            try clear p6
            obtain ⟨x17_4, rfl, HA, HK4, HB⟩ := hrel
            cases gk with
            | zero => exact absurd HA.out (by simp [bl_FloatsAll.l3])
            | succ k4 =>
             have H := HA.out
             clear HA
             simp only [bl_FloatsAll.l3] at H
             by_cases c23 : x17_4 ≤ 6
             ·rw [if_pos c23] at H
              have c23b0 : decide (x17_4 ≤ 6) = true := decide_eq_true c23
              clear c23
              replace H := zob H
              obtain ⟨⟨t287, t288⟩, A240, H⟩ := H
              replace H : ((br_Rel.f x6_1 x17_4 a0 a1).bind fun bt289 => (if (t287 != bt289.1) = true then (some false) else (bl_FloatsAll.l3 k4 a0 a1 x6_1 (wrap64 (x17_4 + 1))))) = some r := H
              have A24 := As0.mk A240
              clear A240
              replace H := zob H
              obtain ⟨⟨t289, t290⟩, A250, H⟩ := H
              replace H : (if (t287 != t289) = true then (some false) else (bl_FloatsAll.l3 k4 a0 a1 x6_1 (wrap64 (x17_4 + 1)))) = some r := H
              have A25 := As0.mk A250
              clear A250
              by_cases c26 : (t287 != t289) = true
              ·rw [if_pos c26] at H
               have c26b0 : (t287 != t289) = true := c26
               (try (have c26b1 : decide (t287 = t289) = false := by simpa using c26))
               (try (have c26b2 : (t287 == t289) = false := by simpa using c26))
               (try (have c26b3 : ¬ (t287 = t289) := by simpa using c26))
               clear c26
               obtain rfl := Option.some.inj H
               go_wp2_with (first | ((with_reducible refine gcl (f := 21) rfl ?_); refine goesL_ (some 82) rfl rfl Try.func21 (by kernel_rfl) rfl #[.int .i64 x6_1, .int .i64 x17_4, .int .u64 a0, .int .u64 a1] rfl (by (try simp only [zmt, zmc, zmn]); first | done | rfl) ?_; (with_reducible refine (floats_Rel.calls k4 x6_1 x17_4 a0 a1 t287 t288 _ A24.out).mono ?_); rintro e w27 ⟨rfl, hb⟩; refine ⟨_, rfl, ?_⟩; have n0_ := As0.mk (bst (by repeat (first | (with_reducible first | exact HB.out | apply bal | apply pwB_ | apply bd1) | exact HB.out)) hb); clear HB; have HB := n0_; clear n0_; (try clear hb); (try clear hb2); (try clear hk); (try clear hi)) | ((with_reducible refine gcl (f := 23) rfl ?_); refine goesL_ (some 90) rfl rfl Try.func23 (by kernel_rfl) rfl #[.int .i64 x6_1, .int .i64 x17_4, .int .u64 a0, .int .u64 a1] rfl (by (try simp only [zmt, zmc, zmn]); first | done | rfl) ?_; (with_reducible refine (br_Rel.calls x6_1 x17_4 a0 a1 t289 t290 _ A25.out).mono ?_); rintro e w28 ⟨rfl, hb⟩; refine ⟨_, rfl, ?_⟩; have n0_ := As0.mk (bst (by repeat (first | (with_reducible first | exact HB.out | apply bal | apply pwB_ | apply bd1) | exact HB.out)) hb); clear HB; have HB := n0_; clear n0_; (try clear hb); (try clear hb2); (try clear hk); (try clear hi)))
               go_ret
               exact ⟨by first | rfl | (simp [*] <;> rfl), by repeat (first | (with_reducible first | exact HB.out | apply bal | apply pwB_ | apply bd1) | exact HB.out)⟩
              ·rw [if_neg c26] at H
               have c26b0 : (t287 != t289) = false := by simpa using c26
               (try (have c26b1 : decide (t287 = t289) = true := by simpa using c26))
               (try (have c26b2 : (t287 == t289) = true := by simpa using c26))
               clear c26
               have H' := As0.mk H
               clear H
               go_wp2_with (first | ((with_reducible refine gcl (f := 21) rfl ?_); refine goesL_ (some 82) rfl rfl Try.func21 (by kernel_rfl) rfl #[.int .i64 x6_1, .int .i64 x17_4, .int .u64 a0, .int .u64 a1] rfl (by (try simp only [zmt, zmc, zmn]); first | done | rfl) ?_; (with_reducible refine (floats_Rel.calls k4 x6_1 x17_4 a0 a1 t287 t288 _ A24.out).mono ?_); rintro e w29 ⟨rfl, hb⟩; refine ⟨_, rfl, ?_⟩; have n0_ := As0.mk (bst (by repeat (first | (with_reducible first | exact HB.out | apply bal | apply pwB_ | apply bd1) | exact HB.out)) hb); clear HB; have HB := n0_; clear n0_; (try clear hb); (try clear hb2); (try clear hk); (try clear hi)) | ((with_reducible refine gcl (f := 23) rfl ?_); refine goesL_ (some 90) rfl rfl Try.func23 (by kernel_rfl) rfl #[.int .i64 x6_1, .int .i64 x17_4, .int .u64 a0, .int .u64 a1] rfl (by (try simp only [zmt, zmc, zmn]); first | done | rfl) ?_; (with_reducible refine (br_Rel.calls x6_1 x17_4 a0 a1 t289 t290 _ A25.out).mono ?_); rintro e w30 ⟨rfl, hb⟩; refine ⟨_, rfl, ?_⟩; have n0_ := As0.mk (bst (by repeat (first | (with_reducible first | exact HB.out | apply bal | apply pwB_ | apply bd1) | exact HB.out)) hb); clear HB; have HB := n0_; clear n0_; (try clear hb); (try clear hb2); (try clear hk); (try clear hi)))
               go_roundg k4
               case measure => have := HK1.out; have := HK2.out; have := HK3.out; have := HK4.out; omega
               case rel => exact ⟨(wrap64 (x17_4 + 1)), (by first | rfl | (simp; done) | (simp [*]; done)), H', ⟨by have := HK1.out; have := HK2.out; have := HK3.out; have := HK4.out; omega⟩, ⟨by repeat (first | (with_reducible first | exact HB.out | apply bal | apply pwB_ | apply bd1) | exact HB.out)⟩⟩
             ·rw [if_neg c23] at H
              have c23b0 : decide (x17_4 ≤ 6) = false := decide_eq_false c23
              clear c23
              have H' := As0.mk H
              clear H
              go_wp2
              go_roundg k4
              case measure => have := HK1.out; have := HK2.out; have := HK3.out; have := HK4.out; omega
              case rel => exact ⟨(wrap64 (x6_1 + 32)), (by first | rfl | (simp; done) | (simp [*]; done)), H', ⟨by have := HK1.out; have := HK2.out; have := HK3.out; have := HK4.out; omega⟩, ⟨by repeat (first | (with_reducible first | exact HB.out | apply bal | apply pwB_ | apply bd1) | exact HB.out)⟩⟩
    ·rw [if_neg c6] at H
     have c6b0 : decide (x6_1 ≤ 64) = false := decide_eq_false c6
     clear c6
     obtain rfl := Option.some.inj H
     go_wp2
     go_ret
     exact ⟨by first | rfl | (simp [*] <;> rfl), by repeat (first | (with_reducible first | exact HB.out | apply bal | apply pwB_ | apply bd1) | exact HB.out)⟩
 ·replace c4 := Bool.eq_false_iff.mpr c4
  subst c4
  have H1 : (some false) = some r := by rw [if_neg (show ¬ (false = true) by decide)] at H; exact H
  clear H
  have H := H1
  clear H1
  obtain rfl := Option.some.inj H
  go_enter Try.func12, Try.ntmps12
  go_wp2_with (first | ((with_reducible refine gcl (f := 16) rfl ?_); refine goesL_ (some 22) rfl rfl Try.func16 (by kernel_rfl) rfl #[] rfl (by (try simp only [zmt, zmc, zmn]); first | done | rfl) ?_; (with_reducible refine (bl_awake.calls k  false _ A3.out).mono ?_); rintro e w31 ⟨rfl, hb⟩; refine ⟨_, rfl, ?_⟩; have n0_ := As0.mk (bst (by repeat (first | (with_reducible first | exact HB.out | apply bal | apply pwB_ | apply bd1) | exact HB.out)) hb); clear HB; have HB := n0_; clear n0_; (try clear hb); (try clear hb2); (try clear hk); (try clear hi)))
  go_ret
  exact ⟨by first | rfl | (simp [*] <;> rfl), by repeat (first | (with_reducible first | exact HB.out | apply bal | apply pwB_ | apply bd1) | exact HB.out)⟩
/-- THE ONE PURE STATEMENT of bl_FloatsAll: yours. -/
def bl_FloatsAll.Pure : Prop := ∀ (a0 : Int) (a1 : Int), (Lit.int .u64 a0).wf = true → (Lit.int .u64 a1).wf = true → ∃ k, bl_FloatsAll.f k a0 a1 = some true
theorem bl_FloatsAll.walk (P : bl_FloatsAll.Pure) (a0 : Int) (a1 : Int) (w : World) (w0 : (Lit.int .u64 a0).wf = true) (w1 : (Lit.int .u64 a1).wf = true) :
  Calls Try.prog 12 #[.int .u64 a0, .int .u64 a1] w fun e w' => e = .returned (.bool true) ∧ Below w.heap.size w w' := by
 obtain ⟨k, h⟩ := P a0 a1 w0 w1
 refine (bl_FloatsAll.calls k a0 a1 true w h).mono ?_
 rintro e w' ⟨rfl, hd⟩
 exact ⟨rfl, hd⟩
def bl_FloatsOne.f (k : Nat) (a0 : Int) (a1 : Int) (a2 : Int) (a3 : Int) : Option (Bool) := (bl_awake.f k).bind fun t291 => (if t291 = true then ((floats_Un.f k a0 a1 a2).bind fun bt292 => ((br_Un.f a0 a1 a2).bind fun bt294 => ((floats_Rel.f k a0 a1 a2 a3).bind fun bt296 => ((br_Rel.f a0 a1 a2 a3).bind fun bt298 => (if bt292.1 = bt294.1 then (if bt292.2 = bt294.2 then (if (bt296.1 == bt298.1) = true then (some (bt296.2 == bt298.2)) else (some false)) else (some false)) else (some false)))))) else (some false))
theorem bl_FloatsOne.mono : ∀ a0 a1 a2 a3 k, LeO (bl_FloatsOne.f k a0 a1 a2 a3) (bl_FloatsOne.f (k + 1) a0 a1 a2 a3) := by
 intro a0 a1 a2 a3 k
 unfold bl_FloatsOne.f
 repeat' first
   | (with_reducible exact bl_awake.mono _)
   | (with_reducible exact floats_Rel.mono _ _ _ _ _)
   | (with_reducible exact floats_Un.mono _ _ _ _)
   | (with_reducible exact LeO.refl _)
   | (with_reducible exact LeO.none _)
   | (with_reducible refine LeO.ite ?_ ?_)
   | (with_reducible refine LeO.bind ?_ (fun _ => ?_))
   | exact bl_awake.mono _
   | exact floats_Rel.mono _ _ _ _ _
   | exact floats_Un.mono _ _ _ _
   | exact LeO.none _
   | refine LeO.ite ?_ ?_
   | refine LeO.bind ?_ (fun _ => ?_)
/-- THE ONE PURE STATEMENT of bl_FloatsOne: yours. -/
def bl_FloatsOne.Pure : Prop := ∀ (a0 : Int) (a1 : Int) (a2 : Int) (a3 : Int), (Lit.int .i64 a0).wf = true → (Lit.int .i64 a1).wf = true → (Lit.int .u64 a2).wf = true → (Lit.int .u64 a3).wf = true → ∃ k, bl_FloatsOne.f k a0 a1 a2 a3 = some true
mutual
def bl_FloatsRoots.l0 : Nat → Int → Int → Option (Bool)
 | 0, _, _ => none
 | k + 1, x0, x4 => if x4 ≤ 64 then (bl_FloatsRoots.l1 k x0 x4 1) else (some true)
def bl_FloatsRoots.l1 : Nat → Int → Int → Int → Option (Bool)
 | 0, _, _, _ => none
 | k + 1, x0, x4, x5 => if x5 ≤ 3 then ((floats_Un.f k x4 x5 x0).bind fun bt301 => ((br_Un.f x4 x5 x0).bind fun bt303 => (if bt301.1 = bt303.1 then (if bt301.2 = bt303.2 then (bl_FloatsRoots.l1 k x0 x4 (wrap64 (x5 + 1))) else (some false)) else (some false)))) else (bl_FloatsRoots.l0 k x0 (wrap64 (x4 + 32)))
end
def bl_FloatsRoots.f (k : Nat) (a0 : Int) : Option (Bool) := (bl_awake.f k).bind fun t300 => (if t300 = true then (bl_FloatsRoots.l0 k a0 32) else (some false))
theorem bl_FloatsRoots.mono_l : ∀ k, (∀ y0 y1, LeO (bl_FloatsRoots.l0 k y0 y1) (bl_FloatsRoots.l0 (k + 1) y0 y1)) ∧ (∀ y0 y1 y2, LeO (bl_FloatsRoots.l1 k y0 y1 y2) (bl_FloatsRoots.l1 (k + 1) y0 y1 y2)) := by
 intro k
 induction k with
 | zero => exact ⟨fun _ _ r h => by simp [bl_FloatsRoots.l0] at h, fun _ _ _ r h => by simp [bl_FloatsRoots.l1] at h⟩
 | succ k ih =>
  obtain ⟨ih0, ih1⟩ := ih
  refine ⟨?_, ?_⟩
  ·intro y0 y1
   unfold bl_FloatsRoots.l0
   repeat' first
   | (with_reducible exact ih0 _ _)
   | (with_reducible exact ih1 _ _ _)
   | (with_reducible exact bl_awake.mono _)
   | (with_reducible exact floats_Un.mono _ _ _ _)
   | (with_reducible exact LeO.refl _)
   | (with_reducible exact LeO.none _)
   | (with_reducible refine LeO.ite ?_ ?_)
   | (with_reducible refine LeO.bind ?_ (fun _ => ?_))
   | exact ih0 _ _
   | exact ih1 _ _ _
   | exact bl_awake.mono _
   | exact floats_Un.mono _ _ _ _
   | exact LeO.none _
   | refine LeO.ite ?_ ?_
   | refine LeO.bind ?_ (fun _ => ?_)
  ·intro y0 y1 y2
   unfold bl_FloatsRoots.l1
   repeat' first
   | (with_reducible exact ih0 _ _)
   | (with_reducible exact ih1 _ _ _)
   | (with_reducible exact bl_awake.mono _)
   | (with_reducible exact floats_Un.mono _ _ _ _)
   | (with_reducible exact LeO.refl _)
   | (with_reducible exact LeO.none _)
   | (with_reducible refine LeO.ite ?_ ?_)
   | (with_reducible refine LeO.bind ?_ (fun _ => ?_))
   | exact ih0 _ _
   | exact ih1 _ _ _
   | exact bl_awake.mono _
   | exact floats_Un.mono _ _ _ _
   | exact LeO.none _
   | refine LeO.ite ?_ ?_
   | refine LeO.bind ?_ (fun _ => ?_)
theorem bl_FloatsRoots.mono : ∀ a0 k, LeO (bl_FloatsRoots.f k a0) (bl_FloatsRoots.f (k + 1) a0) := by
 intro a0 k
 obtain ⟨ih0, ih1⟩ := bl_FloatsRoots.mono_l k
 unfold bl_FloatsRoots.f
 repeat' first
   | (with_reducible exact ih0 _ _)
   | (with_reducible exact ih1 _ _ _)
   | (with_reducible exact bl_awake.mono _)
   | (with_reducible exact floats_Un.mono _ _ _ _)
   | (with_reducible exact LeO.refl _)
   | (with_reducible exact LeO.none _)
   | (with_reducible refine LeO.ite ?_ ?_)
   | (with_reducible refine LeO.bind ?_ (fun _ => ?_))
   | exact ih0 _ _
   | exact ih1 _ _ _
   | exact bl_awake.mono _
   | exact floats_Un.mono _ _ _ _
   | exact LeO.none _
   | refine LeO.ite ?_ ?_
   | refine LeO.bind ?_ (fun _ => ?_)
/-- THE ONE PURE STATEMENT of bl_FloatsRoots: yours. -/
def bl_FloatsRoots.Pure : Prop := ∀ (a0 : Int), (Lit.int .u64 a0).wf = true → ∃ k, bl_FloatsRoots.f k a0 = some true
end Go.Proofs.Ytjfmomogidgbpaa.PFm
namespace Go.Proofs.Ytjfmomogidgbpaa.Pure
set_option linter.unusedVariables false
set_option linter.unusedSimpArgs false
open Go.RowKit Go.Proofs.Ytjfmomogidgbpaa.PFl Go.Proofs.Ytjfmomogidgbpaa.Fl Go.Proofs.YtjfmomogidgbpaaW.PrintWords
/-- The two formats, as the program has them. -/
def Pq (p q : Int) (f : Ieee.Format) : Prop := (p = 23 ∧ q = 8 ∧ f = Ieee.single) ∨ (p = 52 ∧ q = 11 ∧ f = Ieee.double)
theorem and_mask (A k : Nat) (hA : A < 18446744073709551616) (hk : k ≤ 64) : Go.bits .and .u64 (A : Int) ((2 ^ k : Nat) - 1 : Int) = ((A % 2 ^ k : Nat) : Int) := by
  unfold Go.bits
  have h2 : 2 ^ k ≤ 18446744073709551616 := by
    have : 2 ^ k ≤ 2 ^ 64 := Nat.pow_le_pow_right (by decide) hk
    exact this
  have hp := pw_pos k
  have e : ((2 ^ k : Nat) - 1 : Int) = ((2 ^ k - 1 : Nat) : Int) := by omega
  have hb : IntKind.bits .u64 = 64 := rfl
  simp only [e]
  rw [IntKind.wrap_u64, BitVec.toNat_and, BitVec.ofInt_natCast, BitVec.ofInt_natCast, BitVec.toNat_ofNat, BitVec.toNat_ofNat, hb]
  rw [Nat.mod_eq_of_lt (show A < 2 ^ 64 from hA), Nat.mod_eq_of_lt (show 2 ^ k - 1 < 2 ^ 64 by omega), Nat.and_two_pow_sub_one_eq_mod]
  have := Nat.mod_lt A hp
  omega
theorem and_pow (A k : Nat) : A &&& 2 ^ k = if A / 2 ^ k % 2 = 1 then 2 ^ k else 0 := by
  apply Nat.eq_of_testBit_eq
  intro i
  rw [Nat.testBit_and, Nat.testBit_two_pow]
  by_cases h : A / 2 ^ k % 2 = 1
  · rw [if_pos h, Nat.testBit_two_pow]
    by_cases e : k = i
    · subst e
      rw [Nat.testBit_eq_decide_div_mod_eq, decide_eq_true h]; simp
    · simp [e]
  · rw [if_neg h, Nat.zero_testBit]
    by_cases e : k = i
    · subst e
      rw [Nat.testBit_eq_decide_div_mod_eq, decide_eq_false h]; simp
    · simp [e]
theorem and_bit (A k : Nat) (hA : A < 18446744073709551616) (hk : k ≤ 63) : (Go.bits .and .u64 (A : Int) ((2 ^ k : Nat) : Int) != 0) = (A / 2 ^ k % 2 == 1) := by
  unfold Go.bits
  have h2 : 2 ^ k < 18446744073709551616 := by
    have : 2 ^ k < 2 ^ 64 := Nat.pow_lt_pow_right (by decide) (by omega)
    exact this
  have hb : IntKind.bits .u64 = 64 := rfl
  simp only
  rw [IntKind.wrap_u64, BitVec.toNat_and, BitVec.ofInt_natCast, BitVec.ofInt_natCast, BitVec.toNat_ofNat, BitVec.toNat_ofNat, hb]
  rw [Nat.mod_eq_of_lt (show A < 2 ^ 64 from hA), Nat.mod_eq_of_lt (show 2 ^ k < 2 ^ 64 from h2), and_pow]
  have hp := pw_pos k
  by_cases h : A / 2 ^ k % 2 = 1
  · rw [if_pos h, h, beq_self_eq_true, bne_iff_ne]
    omega
  · rw [if_neg h]
    have : A / 2 ^ k % 2 = 0 := by omega
    rw [this]; rfl
theorem or_top (A k : Nat) (hA : A < 2 ^ k) (hk : k ≤ 63) : Go.bits .or .u64 (A : Int) ((2 ^ k : Nat) : Int) = ((2 ^ k + A : Nat) : Int) := by
  unfold Go.bits
  have h2 : 2 ^ k < 2 ^ 64 := Nat.pow_lt_pow_right (by decide) (by omega)
  have h3 : 2 ^ (k + 1) ≤ 2 ^ 64 := Nat.pow_le_pow_right (by decide) (by omega)
  have h4 : 2 ^ (k + 1) = 2 * 2 ^ k := by rw [Nat.pow_succ, Nat.mul_comm]
  have hb : IntKind.bits .u64 = 64 := rfl
  simp only
  rw [IntKind.wrap_u64, BitVec.toNat_or, BitVec.ofInt_natCast, BitVec.ofInt_natCast, BitVec.toNat_ofNat, BitVec.toNat_ofNat, hb]
  rw [Nat.mod_eq_of_lt (show A < 2 ^ 64 by omega), Nat.mod_eq_of_lt h2]
  have e : A ||| 2 ^ k = 2 ^ k + A := by
    rw [Nat.or_comm]
    have := Nat.two_pow_add_eq_or_of_lt hA 1
    rw [Nat.mul_one] at this
    exact this.symm
  rw [e]
  have : 2 ^ 64 = 18446744073709551616 := by decide
  omega
theorem c_sign {p q f} (h : Pq p q f) : ff_sign.f p q = some (f.signWeight : Int) := by
  rcases h with ⟨rfl, rfl, rfl⟩ | ⟨rfl, rfl, rfl⟩ <;> decide +kernel
theorem c_inf {p q f} (h : Pq p q f) : ff_infinity.f p q = some (f.infRung : Int) := by
  rcases h with ⟨rfl, rfl, rfl⟩ | ⟨rfl, rfl, rfl⟩ <;> decide +kernel
theorem c_least {p q f} (h : Pq p q f) : ff_least.f p q = some f.leastPlace := by
  rcases h with ⟨rfl, rfl, rfl⟩ | ⟨rfl, rfl, rfl⟩ <;> decide +kernel
theorem c_none {p q f} (h : Pq p q f) : ff_none.f p q = some false := by
  rcases h with ⟨rfl, rfl, rfl⟩ | ⟨rfl, rfl, rfl⟩ <;> decide +kernel
/-- The sign's place. -/
theorem sgn_pow {p q f} (h : Pq p q f) : ∃ k : Nat, k ≤ 63 ∧ 31 ≤ k ∧ f.signWeight = 2 ^ k := by
  rcases h with ⟨rfl, rfl, rfl⟩ | ⟨rfl, rfl, rfl⟩
  · exact ⟨31, by decide, by decide, rfl⟩
  · exact ⟨63, by decide, by decide, rfl⟩
theorem bin_ok {p q f} (h : Pq p q f) : f.binade ≤ f.infRung := by
  rcases h with ⟨rfl, rfl, rfl⟩ | ⟨rfl, rfl, rfl⟩
  · exact bin_single
  · exact bin_double
theorem c_size {p q f} (h : Pq p q f) (A : Nat) (hA : A < 18446744073709551616) : ff_size.f p q A = some (rungOf f A : Int) := by
  obtain ⟨k, hk, hk2, e⟩ := sgn_pow h
  unfold ff_size.f
  rw [c_sign h]
  simp only [Option.bind_some]
  have h2 : 2 ^ k ≤ 2 ^ 63 := Nat.pow_le_pow_right (by decide) hk
  have hp := pw_pos k
  rw [e, IntKind.wrap_u64, show (((2 ^ k : Nat) : Int) - 1) % 18446744073709551616 = ((2 ^ k : Nat) : Int) - 1 from by omega, and_mask A k hA (by omega)]
  unfold rungOf
  rw [e]
theorem c_neg {p q f} (h : Pq p q f) (A : Nat) (hA : A < 18446744073709551616) : ff_neg.f p q A = some (negOf f A) := by
  obtain ⟨k, hk, hk2, e⟩ := sgn_pow h
  unfold ff_neg.f
  rw [c_sign h]
  simp only [Option.bind_some]
  rw [e, and_bit A k hA hk]
  unfold negOf
  rw [e]
theorem c_signed {p q f} (h : Pq p q f) (neg : Bool) (r : Nat) (hr : r < f.signWeight) : ff_signed.f p q neg r = some (f.word neg r : Int) := by
  obtain ⟨k, hk, hk2, e⟩ := sgn_pow h
  unfold ff_signed.f Ieee.Format.word
  cases neg
  · rfl
  · rw [if_pos rfl, if_pos rfl, c_sign h]
    simp only [Option.bind_some]
    rw [e] at hr ⊢
    rw [or_top r k hr hk]
theorem c_cut {p q f} (h : Pq p q f) (A : Nat) (hA : A < 18446744073709551616) : ff_cut.f p q A = some ((A % (2 * f.signWeight) : Nat) : Int) := by
  obtain ⟨k, hk, hk2, e⟩ := sgn_pow h
  unfold ff_cut.f
  rw [c_sign h]
  simp only [Option.bind_some]
  have h4 : 2 * 2 ^ k = 2 ^ (k + 1) := by rw [Nat.pow_succ, Nat.mul_comm]
  have key : IntKind.u64.wrap (IntKind.u64.wrap ((f.signWeight : Int) * 2) - 1) = ((2 ^ (k + 1) : Nat) : Int) - 1 := by
    rw [IntKind.wrap_u64, IntKind.wrap_u64, e]
    rcases h with ⟨rfl, rfl, rfl⟩ | ⟨rfl, rfl, rfl⟩
    · have : 2 ^ k = 2147483648 := e.symm
      rw [← h4, this]; decide
    · have : 2 ^ k = 9223372036854775808 := e.symm
      rw [← h4, this]; decide
  rw [key, and_mask A (k + 1) hA (by omega), ← h4, e]
theorem c_nan {p q f} (h : Pq p q f) : ff_isNaN.f p q = fun A => (ff_size.f p q A).bind fun s => some (decide ((f.infRung : Int) < s)) := by
  funext A
  unfold ff_isNaN.f
  rw [c_inf h]
  rfl
theorem c_isNaN {p q f} (h : Pq p q f) (A : Nat) (hA : A < 18446744073709551616) : ff_isNaN.f p q A = some (nanW f A) := by
  rw [c_nan h]
  simp only
  rw [c_size h A hA]
  simp only [Option.bind_some]
  unfold nanW
  refine congrArg some ?_
  rw [decide_eq_decide]
  omega
end Go.Proofs.Ytjfmomogidgbpaa.Pure
namespace Go.Proofs.Ytjfmomogidgbpaa.Pure
set_option linter.unusedVariables false
set_option linter.unusedSimpArgs false
open Go.RowKit Go.Proofs.Ytjfmomogidgbpaa.PFl Go.Proofs.Ytjfmomogidgbpaa.Fl Go.Proofs.YtjfmomogidgbpaaW.PrintWords
theorem bitLen_log2 : ∀ (n x : Nat), x < 2 ^ n → n ≤ 64 → x ≠ 0 → Lib.bitLen x = x.log2 + 1
  | 0, x, h, _, h0 => by simp at h; omega
  | n + 1, x, h, hn, h0 => by
    have hx : x < 2 ^ 64 := Nat.lt_of_lt_of_le h (Nat.pow_le_pow_right (by decide) hn)
    rw [Lib.bitLen_half x h0 hx]
    by_cases c : x / 2 = 0
    · have : x = 1 := by omega
      subst this
      decide
    · rw [bitLen_log2 n (x / 2) (by rw [Nat.pow_succ] at h; omega) (by omega) c]
      have := log2_cut x 1 (by rw [Nat.pow_one]; exact c)
      rw [Nat.pow_one] at this
      omega
theorem c_len (M : Nat) (hM : M < 18446744073709551616) (h0 : M ≠ 0) : bits_Len64.f (M : Int) = some ((M.log2 + 1 : Nat) : Int) := by
  unfold bits_Len64.f
  rw [if_pos (by omega), show ((M : Int)).toNat = M from by omega, bitLen_log2 64 M hM (by decide) h0]
/-- A number that is too great is infinity. -/
theorem nearest_big (f : Ieee.Format) (neg : Bool) (N : Nat) (p : Int) (h0 : N ≠ 0) (hp : f.leastPlace + 2 ^ f.exponentBits + f.fractionBits ≤ p) : f.nearest neg N p = f.word neg f.infRung := by
  rw [nearest_eq f neg N p h0]
  have hl : f.leastPlace + 2 ^ f.exponentBits ≤ lastOf f N p := by unfold lastOf; omega
  have h1 : 2 ^ f.exponentBits ≤ (lastOf f N p - f.leastPlace).toNat := by
    have : ((2 ^ f.exponentBits : Nat) : Int) = (2 : Int) ^ f.exponentBits := by rw [Int.natCast_pow]; rfl
    omega
  have h2 : f.infRung ≤ (lastOf f N p - f.leastPlace).toNat * f.binade := by
    unfold Ieee.Format.infRung
    exact Nat.mul_le_mul_right _ (by omega)
  rw [Nat.min_eq_right (by omega)]
/-- A number that is too small is nought. -/
theorem nearest_small (f : Ieee.Format) (neg : Bool) (N : Nat) (p : Int) (hp : p + N.log2 + 2 ≤ f.leastPlace) (hw : 0 ≤ f.infRung) : f.nearest neg N p = f.word neg 0 := by
  by_cases h0 : N = 0
  · subst h0; exact nearest_zero ..
  · have hl : lastOf f N p = f.leastPlace := by unfold lastOf; omega
    rw [nearest_eq f neg N p h0, hl]
    have h1 : N < 2 ^ (N.log2 + 1) := Nat.lt_log2_self
    have : rneP N (p - f.leastPlace) = 0 := by
      unfold rneP
      rw [show (p - f.leastPlace).toNat = 0 from by omega, Nat.pow_zero, Nat.mul_one]
      apply rne_small
      have : 2 ^ (N.log2 + 2) ≤ 2 ^ (-(p - f.leastPlace)).toNat := Nat.pow_le_pow_right (by decide) (by omega)
      have : 2 ^ (N.log2 + 2) = 2 * 2 ^ (N.log2 + 1) := by rw [Nat.pow_succ 2 (N.log2 + 1), Nat.mul_comm]
      omega
    rw [this, Int.sub_self]
    simp
theorem shl_nat (x d : Nat) (h : x * 2 ^ d < 18446744073709551616) (hd : d ≤ 64) : shl .u64 (x : Int) (d : Int) = ((x * 2 ^ d : Nat) : Int) := by
  unfold shl
  rw [IntKind.wrap_u64, show min (d : Int).toNat IntKind.u64.bits = d from by rw [Int.toNat_natCast]; exact Nat.min_eq_left hd]
  have : (x : Int) * 2 ^ d = ((x * 2 ^ d : Nat) : Int) := by rw [Int.natCast_mul, Int.natCast_pow]; rfl
  rw [this]
  omega
theorem shr_nat (x d : Nat) (hd : d ≤ 64) : shr .u64 (x : Int) (d : Int) = ((x / 2 ^ d : Nat) : Int) := by
  unfold shr
  rw [show min (d : Int).toNat IntKind.u64.bits = d from by rw [Int.toNat_natCast]; exact Nat.min_eq_left hd]
  rw [Int.natCast_ediv, Int.natCast_pow]; rfl
/-- The widths, as numbers. -/
theorem c_w {p q f} (h : Pq p q f) : p = (f.fractionBits : Int) ∧ q = (f.exponentBits : Int) ∧ f.fractionBits ≤ 52 ∧ 23 ≤ f.fractionBits ∧ f.exponentBits ≤ 11 ∧ 8 ≤ f.exponentBits ∧ -1074 ≤ f.leastPlace ∧ f.leastPlace ≤ -149 ∧
    f.signWeight ≤ 9223372036854775808 ∧ f.binade ≤ 4503599627370496 ∧ f.signWeight = 2 ^ f.exponentBits * f.binade ∧ f.infRung < f.signWeight := by
  rcases h with ⟨rfl, rfl, rfl⟩ | ⟨rfl, rfl, rfl⟩
  · refine ⟨rfl, rfl, by decide, by decide, by decide, by decide, by rw [s_least]; decide, by rw [s_least]; decide, by rw [s_sgn]; decide, by rw [s_bin]; decide, by decide +kernel, by decide +kernel⟩
  · refine ⟨rfl, rfl, by decide, by decide, by decide, by decide, by rw [d_least]; decide, by rw [d_least]; decide, by rw [d_sgn]; decide, by rw [d_bin]; decide, by decide +kernel, by decide +kernel⟩
/-- The end of a rounding: the exponent's field and the kept digits, no more than infinity. -/
theorem c_j0 {p q f} (h : Pq p q f) (neg : Bool) (K : Nat) (L e : Int) (he : -5000 ≤ e ∧ e ≤ 5000) (hL : f.leastPlace ≤ L) (hL2 : L ≤ 5100) (hK : K ≤ 2 * f.binade) (hK2 : f.leastPlace < L → f.binade ≤ K) (k : Nat) :
    ff_round.j0 (k + 2) neg K e (L - e) p q = some ((f.word neg (min ((L - f.leastPlace).toNat * f.binade + K) f.infRung) : Nat) : Int) := by
  obtain ⟨w1, w2, w3, w4, w5, w6, w7, w8, w9, w10, w11, w12⟩ := c_w h
  have hmin : min ((L - f.leastPlace).toNat * f.binade + K) f.infRung < f.signWeight := Nat.lt_of_le_of_lt (Nat.min_le_right _ _) w12
  have hs : shl .u64 1 (IntKind.u64.wrap p) = (f.binade : Int) := by
    rw [IntKind.wrap_u64, w1, show (f.fractionBits : Int) % 18446744073709551616 = f.fractionBits from by omega]
    have := shl_nat 1 f.fractionBits (by rw [Nat.one_mul]; exact Nat.lt_of_le_of_lt w10 (by decide)) (by omega)
    rw [Nat.one_mul] at this
    exact this
  have hq : shl .i64 1 (IntKind.u64.wrap q) = ((2 ^ f.exponentBits : Nat) : Int) := by
    rcases h with ⟨rfl, rfl, rfl⟩ | ⟨rfl, rfl, rfl⟩ <;> decide +kernel
  have j1 : ∀ l : Nat, l ≤ 20000 → (l * f.binade + K = (L - f.leastPlace).toNat * f.binade + K) →
      ff_round.j1 (k + 1) neg K (l : Int) p q = some ((f.word neg (min ((L - f.leastPlace).toNat * f.binade + K) f.infRung) : Nat) : Int) := by
    intro l hl hlb
    simp only [ff_round.j1]
    rw [if_pos (by rw [IntKind.wrap_u64]; omega), hq, ← hlb]
    have hexp : f.infRung < 2 ^ f.exponentBits * f.binade := by rw [← w11]; exact w12
    by_cases c : (l : Int) ≥ ((2 ^ f.exponentBits : Nat) : Int)
    · rw [if_pos c, c_inf h]
      simp only [Option.bind_some]
      have h1 : 2 ^ f.exponentBits * f.binade ≤ l * f.binade := Nat.mul_le_mul_right _ (by omega)
      rw [c_signed h neg f.infRung w12, Nat.min_eq_right (by omega)]
      rfl
    · rw [if_neg c, if_pos (by rw [IntKind.wrap_u64]; omega), c_inf h]
      simp only [Option.bind_some]
      have h1 : (l + 1) * f.binade ≤ 2 ^ f.exponentBits * f.binade := Nat.mul_le_mul_right _ (by omega)
      rw [Nat.add_mul, Nat.one_mul, ← w11] at h1
      have e1 : shl .u64 (IntKind.u64.wrap (l : Int)) (IntKind.u64.wrap p) = ((l * f.binade : Nat) : Int) := by
        rw [IntKind.wrap_u64, IntKind.wrap_u64, w1, show (l : Int) % 18446744073709551616 = (l : Int) from by omega, show (f.fractionBits : Int) % 18446744073709551616 = f.fractionBits from by omega]
        exact shl_nat l f.fractionBits (by show l * f.binade < _; omega) (by omega)
      rw [e1, IntKind.wrap_u64]
      have e2 : mn ((((l * f.binade : Nat) : Int) + (K : Int)) % 18446744073709551616) (f.infRung : Int) = ((min (l * f.binade + K) f.infRung : Nat) : Int) := by
        rw [show (((l * f.binade : Nat) : Int) + (K : Int)) % 18446744073709551616 = ((l * f.binade + K : Nat) : Int) from by omega]
        unfold mn
        split <;> omega
      rw [e2, c_signed h neg _ (by rw [hlb]; exact hmin)]
      rfl
  simp only [ff_round.j0]
  rw [if_pos (by rw [IntKind.wrap_u64]; omega), hs]
  by_cases c : (K : Int) ≥ (f.binade : Int)
  · rw [if_pos c, c_least h]
    simp only [Option.bind_some]
    rw [show wrap64 (wrap64 (e + (L - e)) - f.leastPlace) = (((L - f.leastPlace).toNat : Nat) : Int) from by unfold wrap64; omega]
    exact j1 _ (by omega) rfl
  · rw [if_neg c]
    have hLe : L = f.leastPlace := by
      apply Classical.byContradiction; intro x
      have := hK2 (by omega); omega
    exact j1 0 (by omega) (by rw [hLe, Int.sub_self]; rfl)
/-- What is kept of a number, as the code reckons it. -/
theorem kept_up (M D : Nat) (b : Bool) (h1 : 1 ≤ D) (h2 : D ≤ 64) (hM : M < 18446744073709551616) :
    shl .u64 (M : Int) ((64 - D : Nat) : Int) = ((M % 2 ^ D * 2 ^ (64 - D) : Nat) : Int) ∧ shr .u64 ((M : Int) / 2) ((D - 1 : Nat) : Int) = ((M / 2 ^ D : Nat) : Int) ∧
    rne (2 * M + b.toNat) (D + 1) = M / 2 ^ D + (if 2 ^ D < 2 * (M % 2 ^ D) ∨ (2 ^ D = 2 * (M % 2 ^ D) ∧ (b = true ∨ M / 2 ^ D % 2 = 1)) then 1 else 0) := by
  have hp := pw_pos D
  refine ⟨?_, ?_, ?_⟩
  · unfold shl
    rw [IntKind.wrap_u64, Int.toNat_natCast, show min (64 - D) IntKind.u64.bits = 64 - D from Nat.min_eq_left (by show 64 - D ≤ 64; omega)]
    have e : (M : Int) * 2 ^ (64 - D) = ((M * 2 ^ (64 - D) : Nat) : Int) := by rw [Int.natCast_mul, Int.natCast_pow]; rfl
    rw [e]
    have e2 : (18446744073709551616 : Nat) = 2 ^ D * 2 ^ (64 - D) := by rw [← Nat.pow_add, show D + (64 - D) = 64 from by omega]
    have : (M * 2 ^ (64 - D)) % 18446744073709551616 = M % 2 ^ D * 2 ^ (64 - D) := by rw [e2, Nat.mul_mod_mul_right]
    omega
  · unfold shr
    rw [Int.toNat_natCast, show min (D - 1) IntKind.u64.bits = D - 1 from Nat.min_eq_left (by show D - 1 ≤ 64; omega)]
    have : M / 2 / 2 ^ (D - 1) = M / 2 ^ D := by rw [Nat.div_div_eq_div_mul, ← Nat.pow_succ', show (D - 1).succ = D from by omega]
    rw [← this, Int.natCast_ediv, Int.natCast_ediv, Int.natCast_pow]; rfl
  · unfold rne
    have hd := Nat.div_add_mod M (2 ^ D)
    have hm := Nat.mod_lt M hp
    have hb : b.toNat ≤ 1 := by cases b <;> decide
    have hp2 : 2 ^ (D + 1) = 2 * 2 ^ D := by rw [Nat.pow_succ, Nat.mul_comm]
    have e : 2 * M + b.toNat = 2 ^ (D + 1) * (M / 2 ^ D) + (2 * (M % 2 ^ D) + b.toNat) := by
      rw [hp2, Nat.mul_assoc]; omega
    rw [e, Nat.mul_add_div (pw_pos _), Nat.mul_add_mod, Nat.div_eq_of_lt (show 2 * (M % 2 ^ D) + b.toNat < 2 ^ (D + 1) by omega), Nat.mod_eq_of_lt (show 2 * (M % 2 ^ D) + b.toNat < 2 ^ (D + 1) by omega), Nat.add_zero, hp2]
    have hev : ∃ c, 2 ^ D = 2 * c := ⟨2 ^ (D - 1), by rw [← Nat.pow_succ', show (D - 1).succ = D from by omega]⟩
    obtain ⟨c, hc⟩ := hev
    congr 1
    clear e hp2 hd
    generalize M % 2 ^ D = r at *
    generalize M / 2 ^ D = m at *
    rw [hc]
    rw [hc] at hm
    clear hp
    cases b
    · simp only [Bool.toNat, cond_false, Nat.add_zero, Bool.false_eq_true, false_or]
      by_cases x : 2 * c < 2 * r ∨ (2 * c = 2 * r ∧ m % 2 = 1)
      · rw [if_pos x, if_pos (by omega)]
      · rw [if_neg x, if_neg (by omega)]
    · simp only [Bool.toNat, cond_true, true_or, and_true]
      by_cases x : 2 * c < 2 * r ∨ 2 * c = 2 * r
      · rw [if_pos (by omega), if_pos (by omega)]
      · rw [if_neg (by omega), if_neg (by omega)]
theorem odd_bit (m : Nat) (hm : m < 18446744073709551616) : (Go.bits .and .u64 (m : Int) 1 = 1) = (m % 2 = 1) := by
  have := and_mask m 1 hm (by decide)
  rw [show ((2 ^ 1 : Nat) - 1 : Int) = 1 from by decide] at this
  rw [this, Nat.pow_one]
  apply propext
  omega
/-- The rounding itself, of a power that is not out of reach. -/
theorem c_round_in {p q f} (h : Pq p q f) (neg : Bool) (M : Nat) (hM : M < 18446744073709551616) (h0 : M ≠ 0) (e : Int) (he : -5000 ≤ e ∧ e ≤ 5000) (more : Bool) (hm : more = true → 288230376151711744 ≤ M) (a3 : Int) (ha : mn (mx a3 (-5000)) 5000 = e) (k : Nat) :
    ff_round.f (k + 2) p q neg M a3 more = some ((f.nearest neg (2 * M + more.toNat) (e - 1) : Nat) : Int) := by
  obtain ⟨w1, w2, w3, w4, w5, w6, w7, w8, w9, w10, w11, w12⟩ := c_w h
  have hb : more.toNat ≤ 1 := by cases more <;> decide
  have hlog : M.log2 ≤ 63 := by have := (Nat.log2_lt (n := M) (k := 64) h0).2 hM; omega
  have hlogN : (2 * M + more.toNat).log2 = M.log2 + 1 := by
    have h1 := Nat.log2_self_le h0
    have h2 : M < 2 ^ (M.log2 + 1) := Nat.lt_log2_self
    refine (Nat.log2_eq_iff (by omega)).2 ⟨?_, ?_⟩
    · rw [Nat.pow_succ]; omega
    · rw [Nat.pow_succ 2 (M.log2 + 1)]; omega
  have hlast : lastOf f (2 * M + more.toNat) (e - 1) = lastOf f M e := by unfold lastOf; rw [hlogN]; omega
  have hNe := nearest_eq f neg (2 * M + more.toNat) (e - 1) (by omega)
  have kb := kept_bounds f (2 * M + more.toNat) (e - 1) (by omega)
  rw [hlast] at hNe kb
  have hLge : f.leastPlace ≤ lastOf f M e := by unfold lastOf; omega
  have hLle : lastOf f M e ≤ 5100 := by unfold lastOf; omega
  have hLge2 : -5100 ≤ lastOf f M e - e ∧ lastOf f M e - e ≤ 5100 := by unfold lastOf; omega
  rw [hNe]
  have fin : ∀ K : Nat, K = rneP (2 * M + more.toNat) (e - 1 - lastOf f M e) → ff_round.j0 (k + 2) neg (K : Int) e (lastOf f M e - e) p q =
      some ((f.word neg (min ((lastOf f M e - f.leastPlace).toNat * f.binade + rneP (2 * M + more.toNat) (e - 1 - lastOf f M e)) f.infRung) : Nat) : Int) := by
    intro K hK
    rw [← hK] at kb ⊢
    exact c_j0 h neg K (lastOf f M e) e he hLge hLle kb.1 kb.2 k
  have hD : wrap64 (mx (wrap64 (wrap64 (wrap64 ((((M.log2 + 1 : Nat) : Int)) + e) - 1) - p)) f.leastPlace - e) = lastOf f M e - e := by
    unfold wrap64 mx lastOf
    rw [w1]
    split <;> omega
  unfold ff_round.f
  rw [if_neg (by omega), c_len M hM h0, c_least h, ha]
  simp only [Option.bind_some]
  rw [hD]
  obtain ⟨L, hL⟩ : ∃ L, L = lastOf f M e := ⟨_, rfl⟩
  rw [← hL] at fin hLge2 ⊢
  have hk1 : ¬ L - e ≤ 0 → 1 ≤ (L - e).toNat := by omega
  by_cases c1 : L - e ≤ 0
  · rw [if_pos c1, if_pos (by rw [IntKind.wrap_u64]; omega)]
    -- nothing is dropped: a little more there would have dropped digits
    have hmf : more = false := by
      cases hmo : more
      · rfl
      · have := hm hmo
        have : 58 ≤ M.log2 := (Nat.le_log2 h0).2 (by show 2 ^ 58 ≤ M; omega)
        exfalso
        unfold lastOf at hL
        omega
    subst hmf
    obtain ⟨d, hd⟩ : ∃ d : Nat, L - e = -(d : Int) := ⟨(-(L - e)).toNat, by omega⟩
    have hkept : rneP (2 * M + false.toNat) (e - 1 - L) = M * 2 ^ d := by
      have s := rneP_scale M 1 (e - 1 - L)
      rw [Nat.pow_one, Nat.mul_comm] at s
      show rneP (2 * M) _ = _
      rw [s]
      unfold rneP
      rw [show (e - 1 - L + ((1 : Nat) : Int)).toNat = d from by omega, show (-(e - 1 - L + ((1 : Nat) : Int))).toNat = 0 from by omega, rne_zero]
    have hdl : d ≤ 64 := by
      unfold lastOf at hL
      omega
    have hlt : M * 2 ^ d < 18446744073709551616 := by
      have := kb.1
      rw [← hL, hkept] at this
      omega
    have e1 : shl .u64 (M : Int) (IntKind.u64.wrap (wrap64 (-(L - e)))) = ((M * 2 ^ d : Nat) : Int) := by
      rw [show IntKind.u64.wrap (wrap64 (-(L - e))) = (d : Int) from by rw [IntKind.wrap_u64]; unfold wrap64; omega]
      exact shl_nat M d hlt hdl
    rw [e1]
    exact fin _ hkept.symm
  · rw [if_neg c1]
    obtain ⟨D, hD⟩ : ∃ D : Nat, L - e = (D : Int) := ⟨(L - e).toNat, by omega⟩
    have hkept : rneP (2 * M + more.toNat) (e - 1 - L) = rne (2 * M + more.toNat) (D + 1) := by
      unfold rneP
      rw [show (e - 1 - L).toNat = 0 from by omega, show (-(e - 1 - L)).toNat = D + 1 from by omega, Nat.pow_zero, Nat.mul_one]
    by_cases c2 : L - e > 64
    · rw [if_pos c2]
      have hz : rneP (2 * M + more.toNat) (e - 1 - L) = 0 := by
        rw [hkept]
        apply rne_small
        have : 2 ^ 66 ≤ 2 ^ (D + 1) := Nat.pow_le_pow_right (by decide) (by omega)
        omega
      exact fin 0 hz.symm
    · rw [if_neg c2, if_pos (by rw [IntKind.wrap_u64]; omega), if_pos (by rw [IntKind.wrap_u64]; omega)]
      have hD1 : 1 ≤ D := by omega
      have hD2 : D ≤ 64 := by omega
      obtain ⟨u1, u2, u3⟩ := kept_up M D more hD1 hD2 hM
      rw [show IntKind.u64.wrap (wrap64 (64 - (L - e))) = ((64 - D : Nat) : Int) from by rw [IntKind.wrap_u64]; unfold wrap64; omega,
        show IntKind.u64.wrap (wrap64 (L - e - 1)) = ((D - 1 : Nat) : Int) from by rw [IntKind.wrap_u64]; unfold wrap64; omega]
      rw [u1, u2]
      have e2 : (18446744073709551616 : Nat) = 2 ^ D * 2 ^ (64 - D) := by rw [← Nat.pow_add, show D + (64 - D) = 64 from by omega]
      have hp2 := pw_pos (64 - D)
      have gt : ((M % 2 ^ D * 2 ^ (64 - D) : Nat) : Int) > 9223372036854775808 ↔ 2 ^ D < 2 * (M % 2 ^ D) := by
        constructor
        · intro x
          have : 2 ^ D * 2 ^ (64 - D) < 2 * (M % 2 ^ D) * 2 ^ (64 - D) := by rw [← e2, Nat.mul_assoc]; omega
          exact Nat.lt_of_mul_lt_mul_right this
        · intro x
          have : 2 ^ D * 2 ^ (64 - D) < 2 * (M % 2 ^ D) * 2 ^ (64 - D) := Nat.mul_lt_mul_of_pos_right x hp2
          rw [← e2, Nat.mul_assoc] at this
          omega
      have eq : ((M % 2 ^ D * 2 ^ (64 - D) : Nat) : Int) = 9223372036854775808 ↔ 2 ^ D = 2 * (M % 2 ^ D) := by
        constructor
        · intro x
          have : 2 ^ D * 2 ^ (64 - D) = 2 * (M % 2 ^ D) * 2 ^ (64 - D) := by rw [← e2, Nat.mul_assoc]; omega
          exact Nat.eq_of_mul_eq_mul_right hp2 this
        · intro x
          have : 2 ^ D * 2 ^ (64 - D) = 2 * (M % 2 ^ D) * 2 ^ (64 - D) := congrArg (fun z => z * 2 ^ (64 - D)) x
          rw [← e2, Nat.mul_assoc] at this
          omega
      have hmle : M / 2 ^ D < 18446744073709551616 := Nat.lt_of_le_of_lt (Nat.div_le_self _ _) hM
      have hmle2 : M / 2 ^ D ≤ 9223372036854775808 := by
        have : M / 2 ^ D ≤ M / 2 ^ 1 := Nat.div_le_div_left (Nat.pow_le_pow_right (by decide) hD1) (by decide)
        omega
      have ew : IntKind.u64.wrap (((M / 2 ^ D : Nat) : Int) + 1) = ((M / 2 ^ D + 1 : Nat) : Int) := by
        generalize M / 2 ^ D = m at hmle2
        rw [IntKind.wrap_u64]; omega
      rw [ew]
      have ob : Go.bits .and .u64 ((M / 2 ^ D : Nat) : Int) 1 = 1 ↔ M / 2 ^ D % 2 = 1 := iff_of_eq (odd_bit _ hmle)
      by_cases g1 : 2 ^ D < 2 * (M % 2 ^ D)
      · rw [if_pos (gt.2 g1)]
        exact fin _ (by rw [hkept, u3, if_pos (.inl g1)])
      · rw [if_neg (fun x => g1 (gt.1 x))]
        by_cases g2 : 2 ^ D = 2 * (M % 2 ^ D)
        · rw [if_pos (eq.2 g2)]
          cases hmo : more
          · rw [hmo] at fin hkept u3
            rw [if_neg (by decide)]
            by_cases g3 : M / 2 ^ D % 2 = 1
            · rw [if_pos (ob.2 g3)]
              exact fin _ (by rw [hkept, u3, if_pos (.inr ⟨g2, .inr g3⟩)])
            · rw [if_neg (fun x => g3 (ob.1 x))]
              exact fin _ (by rw [hkept, u3, if_neg (by rintro (x | ⟨_, x | x⟩) <;> first | (exact g1 x) | (cases x; done) | (exact g3 x)), Nat.add_zero])
          · rw [hmo] at fin hkept u3
            rw [if_pos rfl]
            exact fin _ (by rw [hkept, u3, if_pos (.inr ⟨g2, .inl rfl⟩)])
        · rw [if_neg (fun x => g2 (eq.1 x))]
          exact fin _ (by rw [hkept, u3, if_neg (by rintro (x | ⟨x, _⟩) <;> first | (exact g1 x) | (exact g2 x)), Nat.add_zero])
/-- The rounding: the float nearest to the number, whatever the power. -/
theorem c_round {p q f} (h : Pq p q f) (neg : Bool) (M : Nat) (hM : M < 18446744073709551616) (e : Int) (more : Bool) (hm : more = true → 288230376151711744 ≤ M) (k : Nat) :
    ff_round.f (k + 2) p q neg M e more = some ((f.nearest neg (2 * M + more.toNat) (e - 1) : Nat) : Int) := by
  obtain ⟨w1, w2, w3, w4, w5, w6, w7, w8, w9, w10, w11, w12⟩ := c_w h
  by_cases h0 : M = 0
  · subst h0
    have : more = false := by
      cases hmo : more
      · rfl
      · have := hm hmo; omega
    subst this
    unfold ff_round.f
    rw [if_pos (by rfl)]
    have := c_signed h neg 0 (by omega)
    rw [show ((0 : Nat) : Int) = 0 from rfl] at this
    rw [this]
    simp only [Option.bind_some]
    rw [show 2 * 0 + false.toNat = 0 from rfl, nearest_zero]
  · have hb : more.toNat ≤ 1 := by cases more <;> decide
    have hlogN : (2 * M + more.toNat).log2 ≤ 64 := by
      have := (Nat.log2_lt (n := 2 * M + more.toNat) (k := 65) (by omega)).2 (by show _ < 2 ^ 65; omega); omega
    by_cases c1 : e > 5000
    · rw [c_round_in h neg M hM h0 5000 (by decide) more hm e (by unfold mn mx; (repeat' split) <;> omega) k]
      have h2 : f.leastPlace + 2 ^ f.exponentBits + f.fractionBits ≤ 4999 := by
        have : (2 : Int) ^ f.exponentBits ≤ 2048 := by
          have : ((2 ^ f.exponentBits : Nat) : Int) = (2 : Int) ^ f.exponentBits := by rw [Int.natCast_pow]; rfl
          have : 2 ^ f.exponentBits ≤ 2 ^ 11 := Nat.pow_le_pow_right (by decide) w5
          omega
        omega
      rw [nearest_big f neg _ (5000 - 1) (by omega) (by omega), nearest_big f neg _ (e - 1) (by omega) (by omega)]
    · by_cases c2 : e < -5000
      · rw [c_round_in h neg M hM h0 (-5000) (by decide) more hm e (by unfold mn mx; (repeat' split) <;> omega) k]
        rw [nearest_small f neg _ (-5000 - 1) (by omega) (Nat.zero_le _), nearest_small f neg _ (e - 1) (by omega) (Nat.zero_le _)]
      · exact c_round_in h neg M hM h0 e (by omega) more hm e (by unfold mn mx; (repeat' split) <;> omega) k
/-- The same, of any more rounds than two. -/
theorem c_round' {p q f} (h : Pq p q f) (neg : Bool) (M : Nat) (hM : M < 18446744073709551616) (e : Int) (more : Bool) (hm : more = true → 288230376151711744 ≤ M) (k : Nat) (hk : 2 ≤ k) :
    ff_round.f k p q neg M e more = some ((f.nearest neg (2 * M + more.toNat) (e - 1) : Nat) : Int) := by
  obtain ⟨k, rfl⟩ : ∃ m, k = m + 2 := ⟨k - 2, by omega⟩
  exact c_round h neg M hM e more hm k
end Go.Proofs.Ytjfmomogidgbpaa.Pure
namespace Go.Proofs.Ytjfmomogidgbpaa.Pure
set_option linter.unusedVariables false
set_option linter.unusedSimpArgs false
open Go.RowKit Go.Proofs.Ytjfmomogidgbpaa.PFl Go.Proofs.Ytjfmomogidgbpaa.Fl Go.Proofs.YtjfmomogidgbpaaW.PrintWords
theorem or_nat (x y : Nat) (hx : x < 18446744073709551616) (hy : y < 18446744073709551616) : Go.bits .or .u64 (x : Int) (y : Int) = ((x ||| y : Nat) : Int) := by
  unfold Go.bits
  have hb : IntKind.bits .u64 = 64 := rfl
  simp only
  rw [IntKind.wrap_u64, BitVec.toNat_or, BitVec.ofInt_natCast, BitVec.ofInt_natCast, BitVec.toNat_ofNat, BitVec.toNat_ofNat, hb,
    Nat.mod_eq_of_lt (show x < 2 ^ 64 from hx), Nat.mod_eq_of_lt (show y < 2 ^ 64 from hy)]
  have : x ||| y < 2 ^ 64 := Nat.or_lt_two_pow hx hy
  omega
theorem or_one (x : Nat) (hx : x < 18446744073709551616) : Go.bits .or .u64 (x : Int) 1 = ((x / 2 * 2 + 1 : Nat) : Int) := by
  have := or_nat x 1 hx (by decide)
  rw [show ((1 : Nat) : Int) = 1 from rfl] at this
  rw [this]
  have e : x ||| 1 = x / 2 * 2 + 1 := by
    have h : 2 ^ 1 * (x / 2) ||| (x % 2 ||| 1) = 2 ^ 1 * (x / 2) + (x % 2 ||| 1) := by
      exact (Nat.two_pow_add_eq_or_of_lt (by rcases Nat.mod_two_eq_zero_or_one x with h | h <;> rw [h] <;> decide) (x / 2)).symm
    have h2 : x = 2 ^ 1 * (x / 2) ||| x % 2 := by
      rw [← Nat.two_pow_add_eq_or_of_lt (Nat.mod_lt _ (by decide)) (x / 2)]
      omega
    conv => lhs; rw [h2, Nat.or_assoc, h]
    rcases Nat.mod_two_eq_zero_or_one x with h | h <;> rw [h]
    · show 2 ^ 1 * (x / 2) + 1 = _; omega
    · show 2 ^ 1 * (x / 2) + 1 = _; omega
  rw [e]
theorem word_of (f : Ieee.Format) (A : Nat) (h : A < 2 * f.signWeight) : f.word (negOf f A) (rungOf f A) = A := by
  have hs : 0 < f.signWeight := pw_pos _
  unfold Ieee.Format.word negOf rungOf
  have hd := Nat.div_add_mod A f.signWeight
  have hm := Nat.mod_lt A hs
  by_cases c : A < f.signWeight
  · rw [Nat.div_eq_of_lt c, Nat.mod_eq_of_lt c]; rfl
  · have h1 : A / f.signWeight = 1 := (Nat.div_eq_iff hs).2 ⟨by omega, by omega⟩
    rw [h1] at hd ⊢
    rw [if_pos (by rfl)]
    omega
theorem c_parts {p q f} (h : Pq p q f) (A : Nat) (hA : A < 18446744073709551616) :
    ff_parts.f p q A = some ((magOf f (rungOf f A) : Int), f.leastPlace + (plOf f (rungOf f A) : Int)) := by
  obtain ⟨w1, w2, w3, w4, w5, w6, w7, w8, w9, w10, w11, w12⟩ := c_w h
  have hr : rungOf f A < f.signWeight := Nat.mod_lt _ (pw_pos _)
  have hb : 0 < f.binade := pw_pos _
  generalize hR : rungOf f A = r at *
  have e1 : IntKind.u64.wrap p = (f.fractionBits : Int) := by rw [IntKind.wrap_u64, w1]; omega
  have e2 : shr .u64 (r : Int) (f.fractionBits : Int) = ((r / f.binade : Nat) : Int) := shr_nat r f.fractionBits (by omega)
  have e3 : shl .u64 1 (f.fractionBits : Int) = (f.binade : Int) := by
    have := shl_nat 1 f.fractionBits (by rw [Nat.one_mul]; exact Nat.lt_of_le_of_lt w10 (by decide)) (by omega)
    rw [Nat.one_mul] at this
    exact this
  have e4 : Go.bits .and .u64 (r : Int) (IntKind.u64.wrap ((f.binade : Int) - 1)) = ((r % f.binade : Nat) : Int) := by
    rw [IntKind.wrap_u64, show ((f.binade : Int) - 1) % 18446744073709551616 = (f.binade : Int) - 1 from by omega]
    exact and_mask r f.fractionBits (by omega) (by omega)
  have hx : r / f.binade ≤ r := Nat.div_le_self _ _
  have hx2 : r / f.binade < 4096 := by
    refine (Nat.div_lt_iff_lt_mul hb).2 ?_
    rw [w11] at hr
    have : 2 ^ f.exponentBits ≤ 2 ^ 11 := Nat.pow_le_pow_right (by decide) w5
    have := Nat.mul_le_mul_right f.binade this
    omega
  have hm : r % f.binade < f.binade := Nat.mod_lt _ hb
  unfold ff_parts.f
  rw [c_size h A hA, hR]
  simp only [Option.bind_some]
  rw [if_pos (by rw [IntKind.wrap_u64]; omega), e1, e2, e3, e4, c_least h]
  simp only [Option.bind_some]
  rw [show wrap64 ((r / f.binade : Nat) : Int) = ((r / f.binade : Nat) : Int) from by
    generalize r / f.binade = z at *
    unfold wrap64; omega]
  have zl : r < f.binade ↔ r / f.binade = 0 := by
    constructor
    · exact Nat.div_eq_of_lt
    · intro e
      have := Nat.div_add_mod r f.binade
      rw [e] at this; omega
  by_cases c : r < f.binade
  · have z := zl.1 c
    rw [if_pos (by rw [z]; rfl)]
    unfold magOf plOf
    rw [if_pos c, z, Nat.mod_eq_of_lt c]
    refine congrArg some (Prod.ext rfl ?_)
    show f.leastPlace = f.leastPlace + ((0 - 1 : Nat) : Int)
    omega
  · have z := mt zl.2 c
    rw [if_neg (by omega)]
    unfold magOf plOf
    rw [if_neg c]
    have e5 : Go.bits .or .u64 ((r % f.binade : Nat) : Int) (f.binade : Int) = ((f.binade + r % f.binade : Nat) : Int) := or_top (r % f.binade) f.fractionBits hm (by omega)
    rw [e5]
    refine congrArg some (Prod.ext rfl ?_)
    show wrap64 (wrap64 (f.leastPlace + ((r / f.binade : Nat) : Int)) - 1) = _
    generalize r / f.binade = y at *
    unfold wrap64
    omega
theorem c_jam (A j : Nat) (hA : A < 18446744073709551616) (hj : 63 < j → A < 9223372036854775808) (hj2 : j < 9223372036854775808) : floats_jam.f (A : Int) (j : Int) = some ((jam A j : Nat) : Int) := by
  unfold floats_jam.f
  by_cases c : (j : Int) > 63
  · have hA2 := hj (by omega)
    rw [if_pos c]
    have : jam A j = if A = 0 then 0 else 1 := by
      by_cases z : A = 0
      · subst z; rw [if_pos rfl]; unfold jam; simp
      · rw [if_neg z]
        refine jam_big A j ?_ z
        have : 2 ^ 63 ≤ 2 ^ j := Nat.pow_le_pow_right (by decide) (by omega)
        omega
    rw [this, show (A : Int) / 9223372036854775808 = 0 from by omega]
    by_cases z : A = 0
    · subst z; rw [if_pos rfl, if_pos (by decide +kernel)]; rfl
    · rw [if_neg z, if_neg (by rw [IntKind.wrap_u64]; omega)]; decide +kernel
  · rw [if_neg c, if_pos (by rw [IntKind.wrap_u64]; omega), show IntKind.u64.wrap (j : Int) = (j : Int) from by rw [IntKind.wrap_u64]; omega, shr_nat A j (by omega)]
    have hp := pw_pos j
    have hd := Nat.div_add_mod A (2 ^ j)
    have hle : A / 2 ^ j * 2 ^ j ≤ A := Nat.div_mul_le_self _ _
    rw [shl_nat (A / 2 ^ j) j (by omega) (by omega)]
    unfold jam
    by_cases z : A % 2 ^ j = 0
    · rw [if_pos z, if_pos (by rw [z, Nat.mul_comm] at hd; omega)]
    · rw [if_neg z, if_neg (by rw [Nat.mul_comm] at hd; omega), or_one _ (by have := Nat.div_le_self A (2 ^ j); omega)]
/-- How the program tells which one is less. -/
def lessF (f : Ieee.Format) (A B : Nat) : Bool :=
  if rungOf f A = 0 ∧ rungOf f B = 0 then false else if negOf f A ≠ negOf f B then negOf f A else if negOf f A then decide (rungOf f B < rungOf f A) else decide (rungOf f A < rungOf f B)
theorem lessF_order (f : Ieee.Format) (A B : Nat) (hi : f.binade ≤ f.infRung) (hA : rungOf f A ≤ f.infRung) (hB : rungOf f B ≤ f.infRung) : (f.order A B == some .lt) = lessF f A B := by
  rw [order_key f A B hi hA hB]
  have cmp : ∀ a b : Int, compare a b = if a < b then .lt else if a = b then .eq else .gt := fun a b => rfl
  have e : (some (compare (Fl.keyOf f A) (Fl.keyOf f B)) == some Ordering.lt) = decide (Fl.keyOf f A < Fl.keyOf f B) := by
    rw [cmp]
    by_cases l : Fl.keyOf f A < Fl.keyOf f B
    · rw [if_pos l, decide_eq_true l]; rfl
    · rw [if_neg l, decide_eq_false l]
      by_cases m : Fl.keyOf f A = Fl.keyOf f B
      · rw [if_pos m]; rfl
      · rw [if_neg m]; rfl
  rw [e]
  unfold lessF Fl.keyOf
  by_cases z : rungOf f A = 0 ∧ rungOf f B = 0
  · rw [if_pos z, z.1, z.2]
    cases negOf f A <;> cases negOf f B <;> rfl
  · rw [if_neg z]
    cases negOf f A <;> cases negOf f B <;> simp only [Bool.false_eq_true, if_false, if_true, ne_eq, not_true_eq_false, not_false_eq_true, reduceCtorEq]
    · rw [decide_eq_decide]; omega
    · rw [decide_eq_false (by omega)]
    · rw [decide_eq_true (by omega)]
    · rw [decide_eq_decide]; omega
/-- A result, or the NaN that is answered. -/
def resP (p : Int) : Option Nat → Int
  | some r => r
  | none => if p = 23 then canon 32 else canon 64
theorem c_nanv {p q f} (h : Pq p q f) : ff_nan.f p q = some (resP p none) := by
  rcases h with ⟨rfl, rfl, rfl⟩ | ⟨rfl, rfl, rfl⟩ <;> decide +kernel
theorem write_inf (f : Ieee.Format) (A : Nat) (h : A < 2 * f.signWeight) (hi : rungOf f A = f.infRung) : f.write (.infinity (negOf f A)) = A := by
  show f.word (negOf f A) f.infRung = A
  rw [← hi]; exact word_of f A h
theorem nearest_word (f : Ieee.Format) (A : Nat) (h : A < 2 * f.signWeight) (hw : f.binade ≤ f.infRung) (hi : rungOf f A < f.infRung) :
    f.nearest (negOf f A) (magOf f (rungOf f A)) (f.leastPlace + (plOf f (rungOf f A) : Nat)) = A := by
  rw [nearest_read f _ _ hw hi]; exact word_of f A h
theorem c_add_j1 {p q f} (h : Pq p q f) (A B : Nat) (hA : A < 18446744073709551616) (hB : B < 18446744073709551616) (iA : rungOf f A < f.infRung) (le : rungOf f B ≤ rungOf f A) (k : Nat) :
    ff_add.j1 (k + 3) A B (negOf f A != negOf f B) p q = some (resP p (((f.read A).sum (f.read B)).map f.write)) := by
  obtain ⟨w1, w2, w3, w4, w5, w6, w7, w8, w9, w10, w11, w12⟩ := c_w h
  have hb := bin_ok h
  have mA := mag_lt f (rungOf f A); have mB := mag_lt f (rungOf f B)
  have lp := pl_mono f _ _ le
  have plA : plOf f (rungOf f A) ≤ 4096 := by
    unfold plOf
    have : 2 ^ f.exponentBits ≤ 2 ^ 11 := Nat.pow_le_pow_right (by decide) w5
    have := Nat.mul_le_mul_right f.binade this
    have hlt : rungOf f A < 4096 * f.binade := by omega
    have : rungOf f A / f.binade < 4096 := (Nat.div_lt_iff_lt_mul (pw_pos f.fractionBits)).2 hlt
    omega
  have sp := sum_prog f (negOf f A) (negOf f B) (magOf f (rungOf f A)) (magOf f (rungOf f B)) (f.leastPlace + (plOf f (rungOf f A) : Nat)) (f.leastPlace + (plOf f (rungOf f B) : Nat))
    (plOf f (rungOf f A) - plOf f (rungOf f B)) (by omega) (fun x => mag_ge f _ (by omega)) mB (by
      by_cases e : rungOf f B = rungOf f A
      · rw [e, Nat.sub_self, Nat.pow_zero, Nat.mul_one]; exact Nat.le_refl _
      · exact Nat.le_of_lt (rung_lt f _ _ (by omega)))
  rw [read_num f A iA, read_num f B (by omega), sp.2]
  have s1 := sp.1
  simp only [ff_add.j1]
  rw [c_parts h A hA, c_parts h B hB]
  simp only [Option.bind_some]
  generalize hj : plOf f (rungOf f A) - plOf f (rungOf f B) = j at *
  have ej : wrap64 (f.leastPlace + ((plOf f (rungOf f A) : Nat) : Int) - (f.leastPlace + ((plOf f (rungOf f B) : Nat) : Int))) = (j : Int) := by unfold wrap64; omega
  have em : IntKind.u64.wrap (((magOf f (rungOf f B) : Nat) : Int) * 1024) = ((magOf f (rungOf f B) * 2 ^ 10 : Nat) : Int) := by rw [IntKind.wrap_u64]; omega
  have en : IntKind.u64.wrap (((magOf f (rungOf f A) : Nat) : Int) * 1024) = ((magOf f (rungOf f A) * 2 ^ 10 : Nat) : Int) := by rw [IntKind.wrap_u64]; omega
  rw [ej, em, en, c_jam _ j (by omega) (fun _ => by omega) (by omega)]
  simp only [Option.bind_some]
  have hx : magOf f (rungOf f A) * 2 ^ 10 < 9223372036854775808 := by omega
  obtain ⟨y, hy⟩ : ∃ y, y = jam (magOf f (rungOf f B) * 2 ^ 10) j := ⟨_, rfl⟩
  rw [← hy] at s1 ⊢
  obtain ⟨x, hx'⟩ : ∃ x, x = magOf f (rungOf f A) * 2 ^ 10 := ⟨_, rfl⟩
  rw [← hx'] at s1 hx ⊢
  clear hy hx' em en sp
  have e1 : IntKind.u64.wrap ((x : Int) - (y : Int)) = ((x - y : Nat) : Int) := by rw [IntKind.wrap_u64]; omega
  have e2 : IntKind.u64.wrap ((x : Int) + (y : Int)) = ((x + y : Nat) : Int) := by rw [IntKind.wrap_u64]; omega
  have e3 : wrap64 (f.leastPlace + ((plOf f (rungOf f A) : Nat) : Int) - 10) = f.leastPlace + ((plOf f (rungOf f A) : Nat) : Int) - 10 := by unfold wrap64; omega
  have rd : ∀ neg (M : Nat) (hM : M < 18446744073709551616), ff_round.f (k + 2) p q neg M (f.leastPlace + ((plOf f (rungOf f A) : Nat) : Int) - 10) false =
      some ((f.nearest neg M (f.leastPlace + ((plOf f (rungOf f A) : Nat) : Int) - 10) : Nat) : Int) := by
    intro neg M hM
    rw [c_round h neg M hM _ false (fun x => by cases x) k]
    have s := nearest_scale f neg M 1 (f.leastPlace + ((plOf f (rungOf f A) : Nat) : Int) - 10 - 1)
    rw [Nat.pow_one, Nat.mul_comm] at s
    show some ((f.nearest neg (2 * M) _ : Nat) : Int) = _
    rw [s, show f.leastPlace + ((plOf f (rungOf f A) : Nat) : Int) - 10 - 1 + ((1 : Nat) : Int) = f.leastPlace + ((plOf f (rungOf f A) : Nat) : Int) - 10 from by omega]
  rw [e1, e2, e3, c_neg h A hA]
  simp only [Option.bind_some]
  have eb : (((x : Nat) : Int) != ((y : Nat) : Int)) = (x != y) := by
    rw [Bool.eq_iff_iff, bne_iff_ne, bne_iff_ne]; omega
  cases sA : negOf f A <;> cases sB : negOf f B
  · rw [if_neg (by decide), rd _ _ (by omega), if_pos rfl]; rfl
  · rw [if_pos (by decide), if_neg (by decide), rd _ _ (by omega), if_neg (by decide)]; rfl
  · rw [if_pos (by decide), if_pos rfl, eb, rd _ _ (by omega), if_neg (by decide)]; rfl
  · rw [if_neg (by decide), rd _ _ (by omega), if_pos rfl]; rfl
theorem c_add_j0 {p q f} (h : Pq p q f) (A B : Nat) (hA : A < 2 * f.signWeight) (hB : B < 2 * f.signWeight) (iA : rungOf f A ≤ f.infRung) (le : rungOf f B ≤ rungOf f A) (k : Nat) :
    ff_add.j0 (k + 4) A B p q = some (resP p (((f.read A).sum (f.read B)).map f.write)) := by
  obtain ⟨w1, w2, w3, w4, w5, w6, w7, w8, w9, w10, w11, w12⟩ := c_w h
  have hb := bin_ok h
  have hA' : A < 18446744073709551616 := by omega
  have hB' : B < 18446744073709551616 := by omega
  simp only [ff_add.j0]
  rw [c_neg h A hA', c_neg h B hB', c_size h A hA', c_size h B hB', c_inf h]
  simp only [Option.bind_some]
  by_cases ci : rungOf f A = f.infRung
  · rw [if_pos (by omega), read_inf f A hb ci]
    by_cases cj : rungOf f B = f.infRung
    · rw [read_inf f B hb cj]
      by_cases s : negOf f A = negOf f B
      · rw [if_neg (by rw [s]; simp)]
        simp only [Ieee.Datum.sum]
        rw [if_pos s, Option.map_some, write_inf f A hA ci]; rfl
      · rw [if_pos (by rw [bne_iff_ne]; exact s), if_pos (by omega), c_nanv h]
        simp only [Option.bind_some, Ieee.Datum.sum]
        rw [if_neg s]; rfl
    · rw [read_num f B (by omega)]
      simp only [Ieee.Datum.sum, Option.map_some]
      rw [write_inf f A hA ci]
      by_cases s : (negOf f A != negOf f B) = true
      · rw [if_pos s, if_neg (by omega)]; rfl
      · rw [if_neg s]; rfl
  · rw [if_neg (by omega)]
    have hj1 := c_add_j1 h A B hA' hB' (by omega) le k
    by_cases z : rungOf f B = 0
    · rw [if_pos (by omega)]
      by_cases z2 : (rungOf f A : Int) > 0
      · rw [if_pos z2, read_num f A (by omega), read_num f B (by omega), (mag_zero f (rungOf f B)).2 z]
        have hm0 : magOf f (rungOf f A) ≠ 0 := fun e => by have := (mag_zero f _).1 e; omega
        have pl0 : plOf f (rungOf f B) = 0 := by unfold plOf; rw [z, Nat.zero_div]
        have bp : 0 < f.binade := pw_pos _
        have sp := sum_prog f (negOf f A) (negOf f B) (magOf f (rungOf f A)) 0 (f.leastPlace + (plOf f (rungOf f A) : Nat)) (f.leastPlace + (plOf f (rungOf f B) : Nat))
          (plOf f (rungOf f A)) (by omega) (fun x => mag_ge f _ (by omega)) (by omega) (Nat.zero_le _)
        rw [sp.2, show 0 * 2 ^ 10 = 0 from rfl, (jam_eq_zero 0 _).2 rfl]
        have nw := nearest_word f A hA hb (by omega)
        have s := nearest_scale f (negOf f A) (magOf f (rungOf f A)) 10 (f.leastPlace + (plOf f (rungOf f A) : Nat) - 10)
        rw [show f.leastPlace + ((plOf f (rungOf f A) : Nat) : Int) - 10 + ((10 : Nat) : Int) = f.leastPlace + ((plOf f (rungOf f A) : Nat) : Int) from by omega, nw] at s
        rw [Nat.add_zero, Nat.sub_zero]
        have ne : (magOf f (rungOf f A) * 2 ^ 10 != 0) = true := by
          rw [bne_iff_ne]; have := Nat.mul_pos (Nat.pos_of_ne_zero hm0) (pw_pos 10); omega
        rw [ne, Bool.and_true, s]
        by_cases c : negOf f A = negOf f B
        · rw [if_pos c]; rfl
        · rw [if_neg c]; rfl
      · rw [if_neg z2]; exact hj1
    · rw [if_neg (by omega)]; exact hj1
/-- The sum of two words that are no NaNs. -/
theorem c_add {p q f} (h : Pq p q f) (A B : Nat) (hA : A < 2 * f.signWeight) (hB : B < 2 * f.signWeight) (iA : rungOf f A ≤ f.infRung) (iB : rungOf f B ≤ f.infRung) (k : Nat) :
    ff_add.f (k + 4) p q A B = some (resP p (f.add A B)) := by
  obtain ⟨w1, w2, w3, w4, w5, w6, w7, w8, w9, w10, w11, w12⟩ := c_w h
  unfold ff_add.f
  rw [c_size h A (by omega), c_size h B (by omega)]
  simp only [Option.bind_some]
  unfold Ieee.Format.add
  by_cases c : (rungOf f A : Int) < (rungOf f B : Int)
  · rw [if_pos c, c_add_j0 h B A hB hA iB (by omega) k, sum_comm]
  · rw [if_neg c, c_add_j0 h A B hA hB iA (by omega) k]
end Go.Proofs.Ytjfmomogidgbpaa.Pure
namespace Go.Proofs.Ytjfmomogidgbpaa.Pure
set_option linter.unusedVariables false
set_option linter.unusedSimpArgs false
open Go.RowKit Go.Proofs.Ytjfmomogidgbpaa.PFl Go.Proofs.Ytjfmomogidgbpaa.Fl Go.Proofs.YtjfmomogidgbpaaW.PrintWords
theorem mul_parts (p00 p01 p10 p11 : Nat) :
    (p11 * 18446744073709551616 + (p10 + p01) * 4294967296 + p00) / 18446744073709551616 = p11 + (p10 + p00 / 4294967296) / 4294967296 + ((p10 + p00 / 4294967296) % 4294967296 + p01) / 4294967296 := by
  have e1 : (p11 * 18446744073709551616 + (p10 + p01) * 4294967296 + p00) / 4294967296 = p11 * 4294967296 + (p10 + p01) + p00 / 4294967296 := by omega
  rw [show (18446744073709551616 : Nat) = 4294967296 * 4294967296 from rfl, ← Nat.div_div_eq_div_mul]
  rw [show p11 * (4294967296 * 4294967296) = p11 * 18446744073709551616 from rfl, e1]
  generalize p00 / 4294967296 = a
  have e2 : p11 * 4294967296 + (p10 + p01) + a = 4294967296 * p11 + (p10 + a + p01) := by omega
  rw [e2, Nat.mul_add_div (by decide)]
  generalize p10 + a = t
  omega
theorem c_mul64 (x y : Nat) (hx : x < 18446744073709551616) (hy : y < 18446744073709551616) :
    bits_Mul64.f (x : Int) (y : Int) = some (((x * y / 18446744073709551616 : Nat) : Int), ((x * y % 18446744073709551616 : Nat) : Int)) := by
  unfold bits_Mul64.f
  have mk : ∀ z : Nat, z < 18446744073709551616 → Go.bits .and .u64 (z : Int) 4294967295 = ((z % 4294967296 : Nat) : Int) := by
    intro z hz
    exact and_mask z 32 hz (by decide)
  rw [mk x hx, mk y hy]
  have dx := Nat.div_add_mod x 4294967296
  have dy := Nat.div_add_mod y 4294967296
  have x0 := Nat.mod_lt x (show 0 < 4294967296 by decide)
  have y0 := Nat.mod_lt y (show 0 < 4294967296 by decide)
  have x1 : x / 4294967296 < 4294967296 := by omega
  have y1 : y / 4294967296 < 4294967296 := by omega
  rw [show (x : Int) / 4294967296 = ((x / 4294967296 : Nat) : Int) from by omega, show (y : Int) / 4294967296 = ((y / 4294967296 : Nat) : Int) from by omega]
  generalize ha : x / 4294967296 = a at *
  generalize hb : x % 4294967296 = b at *
  generalize hc : y / 4294967296 = c at *
  generalize hd : y % 4294967296 = d at *
  have m : ∀ u v : Nat, u < 4294967296 → v < 4294967296 → IntKind.u64.wrap ((u : Int) * (v : Int)) = ((u * v : Nat) : Int) ∧ u * v ≤ 18446744065119617025 := by
    intro u v hu hv
    have : u * v ≤ 4294967295 * 4294967295 := Nat.mul_le_mul (by omega) (by omega)
    refine ⟨?_, by omega⟩
    rw [IntKind.wrap_u64, ← Int.natCast_mul]
    omega
  rw [(m a c x1 y1).1, (m a d x1 y0).1, (m b d x0 y0).1, (m b c x0 y1).1]
  have l1 := (m a c x1 y1).2; have l2 := (m a d x1 y0).2; have l3 := (m b d x0 y0).2; have l4 := (m b c x0 y1).2
  have hxy : x * y = a * c * 18446744073709551616 + (a * d + b * c) * 4294967296 + b * d := by
    rw [← dx, ← dy, Nat.add_mul, Nat.mul_add, Nat.mul_add, Nat.add_mul]
    have e1 : 4294967296 * a * (4294967296 * c) = a * c * 18446744073709551616 := by
      rw [show (18446744073709551616 : Nat) = 4294967296 * 4294967296 from rfl]; ac_rfl
    have e2 : 4294967296 * a * d = a * d * 4294967296 := by ac_rfl
    have e3 : b * (4294967296 * c) = b * c * 4294967296 := by ac_rfl
    omega
  have hlo : IntKind.u64.wrap ((x : Int) * (y : Int)) = ((x * y % 18446744073709551616 : Nat) : Int) := by
    rw [IntKind.wrap_u64, ← Int.natCast_mul]; omega
  have hhi := mul_parts (b * d) (b * c) (a * d) (a * c)
  have hlt : x * y / 18446744073709551616 < 18446744073709551616 := by
    have : x * y ≤ 18446744073709551615 * 18446744073709551615 := Nat.mul_le_mul (by omega) (by omega)
    omega
  rw [hlo, hxy, hhi]
  rw [hxy, hhi] at hlt
  generalize a * c = P at *
  generalize a * d = Q at *
  generalize b * d = R at *
  generalize b * c = S at *
  have t1 : IntKind.u64.wrap ((Q : Int) + (R : Int) / 4294967296) = ((Q + R / 4294967296 : Nat) : Int) := by rw [IntKind.wrap_u64]; omega
  rw [t1, mk _ (by omega)]
  generalize hT : Q + R / 4294967296 = T at *
  refine congrArg some (Prod.ext ?_ rfl)
  show IntKind.u64.wrap (IntKind.u64.wrap ((P : Int) + (T : Int) / 4294967296) + IntKind.u64.wrap (((T % 4294967296 : Nat) : Int) + (S : Int)) / 4294967296) = _
  have e1 : IntKind.u64.wrap ((P : Int) + (T : Int) / 4294967296) = ((P + T / 4294967296 : Nat) : Int) := by rw [IntKind.wrap_u64]; omega
  have e2 : IntKind.u64.wrap (((T % 4294967296 : Nat) : Int) + (S : Int)) = ((T % 4294967296 + S : Nat) : Int) := by rw [IntKind.wrap_u64]; omega
  rw [e1, e2, IntKind.wrap_u64]
  omega
theorem resP_some (p : Int) (r : Nat) : resP p (some r) = (r : Int) := rfl
/-- The product of two words that are no NaNs. -/
theorem c_mul {p q f} (h : Pq p q f) (A B : Nat) (hA : A < 2 * f.signWeight) (hB : B < 2 * f.signWeight) (iA : rungOf f A ≤ f.infRung) (iB : rungOf f B ≤ f.infRung) (k : Nat) :
    ff_mul.f (k + 4) p q A B = some (resP p (f.mul A B)) := by
  obtain ⟨w1, w2, w3, w4, w5, w6, w7, w8, w9, w10, w11, w12⟩ := c_w h
  have hb := bin_ok h
  have hA' : A < 18446744073709551616 := by omega
  have hB' : B < 18446744073709551616 := by omega
  have ip : 0 < f.infRung := Nat.lt_of_lt_of_le (pw_pos _) hb
  have eneg : (negOf f A != negOf f B) = (negOf f A ^^ negOf f B) := by cases negOf f A <;> cases negOf f B <;> rfl
  unfold ff_mul.f Ieee.Format.mul
  rw [c_neg h A hA', c_neg h B hB', c_size h A hA', c_size h B hB', c_inf h]
  simp only [Option.bind_some]
  have yes : (rungOf f A = f.infRung ∨ rungOf f B = f.infRung) → ff_mul.j0 (k + 4) A B (negOf f A != negOf f B) (rungOf f A) (rungOf f B) true p q =
      some (resP p (((f.read A).product (f.read B)).map f.write)) := by
    intro hi
    simp only [ff_mul.j0]
    rw [if_pos True.intro]
    have j1t : ff_mul.j1 (k + 3) (negOf f A != negOf f B) true p q = some (resP p none) := by
      simp only [ff_mul.j1]
      rw [if_pos True.intro, c_nanv h]
      rfl
    have j1f : ff_mul.j1 (k + 3) (negOf f A != negOf f B) false p q = some (resP p (some (f.word (negOf f A ^^ negOf f B) f.infRung))) := by
      simp only [ff_mul.j1]
      rw [if_neg (by simp), c_inf h]
      simp only [Option.bind_some]
      rw [c_signed h _ _ w12, eneg]
      rfl
    by_cases z : (rungOf f A : Int) = 0
    · rw [if_pos z, j1t]
      have : rungOf f B = f.infRung := by omega
      rw [read_inf f B hb this, read_num f A (by omega), (mag_zero f (rungOf f A)).2 (by omega)]
      rfl
    · rw [if_neg z]
      by_cases z2 : (rungOf f B : Int) = 0
      · rw [beq_iff_eq.2 z2, j1t]
        have : rungOf f A = f.infRung := by omega
        rw [read_inf f A hb this, read_num f B (by omega), (mag_zero f (rungOf f B)).2 (by omega)]
        rfl
      · rw [beq_eq_false_iff_ne.2 z2, j1f]
        by_cases ci : rungOf f A = f.infRung
        · rw [read_inf f A hb ci]
          by_cases cj : rungOf f B = f.infRung
          · rw [read_inf f B hb cj]; rfl
          · rw [read_num f B (by omega)]
            simp only [Ieee.Datum.product]
            rw [if_neg (fun e => z2 (by have := (mag_zero f (rungOf f B)).1 e; omega))]
            rfl
        · rw [read_num f A (by omega), read_inf f B hb (by omega)]
          simp only [Ieee.Datum.product]
          rw [if_neg (fun e => z (by have := (mag_zero f (rungOf f A)).1 e; omega)), Bool.xor_comm]
          rfl
  by_cases ci : (rungOf f A : Int) = (f.infRung : Int)
  · rw [if_pos ci]; exact yes (.inl (by omega))
  · rw [if_neg ci]
    by_cases cj : (rungOf f B : Int) = (f.infRung : Int)
    · rw [beq_iff_eq.2 cj]; exact yes (.inr (by omega))
    · rw [beq_eq_false_iff_ne.2 cj]
      simp only [ff_mul.j0]
      rw [if_neg (by simp), c_parts h A hA', c_parts h B hB']
      simp only [Option.bind_some]
      rw [read_num f A (by omega), read_num f B (by omega)]
      have mA := mag_lt f (rungOf f A); have mB := mag_lt f (rungOf f B)
      have pl : ∀ r, r ≤ f.infRung → plOf f r ≤ 4096 := by
        intro r hr
        unfold plOf
        have : 2 ^ f.exponentBits ≤ 2 ^ 11 := Nat.pow_le_pow_right (by decide) w5
        have := Nat.mul_le_mul_right f.binade this
        have hlt : r < 4096 * f.binade := by omega
        have : r / f.binade < 4096 := (Nat.div_lt_iff_lt_mul (pw_pos f.fractionBits)).2 hlt
        omega
      have pA := pl _ iA
      have pB := pl _ iB
      generalize plOf f (rungOf f A) = a at *
      generalize plOf f (rungOf f B) = b at *
      generalize magOf f (rungOf f A) = m at *
      generalize magOf f (rungOf f B) = n at *
      rw [c_mul64 m n (by omega) (by omega)]
      simp only [Option.bind_some]
      have hN : m * n < 2 ^ 106 := by
        have : m * n ≤ 9007199254740991 * 9007199254740991 := Nat.mul_le_mul (by omega) (by omega)
        omega
      have pr := fun j hj => product_prog f (negOf f A) (negOf f B) m n (f.leastPlace + (a : Int)) (f.leastPlace + (b : Int)) j hj
      generalize hNN : m * n = N at *
      rw [eneg]
      generalize (negOf f A ^^ negOf f B) = s at *
      have rd : ∀ (M : Nat) (hM : M < 18446744073709551616) (E : Int), ff_round.f (k + 3) p q s M E false = some ((f.nearest s M E : Nat) : Int) := by
        intro M hM E
        rw [c_round h s M hM _ false (fun x => by cases x) (k + 1)]
        have sc := nearest_scale f s M 1 (E - 1)
        rw [Nat.pow_one, Nat.mul_comm] at sc
        show some ((f.nearest s (2 * M) _ : Nat) : Int) = _
        rw [sc, show E - 1 + ((1 : Nat) : Int) = E from by omega]
      have ew : ∀ j : Nat, j ≤ 64 → wrap64 (wrap64 (f.leastPlace + (a : Int) + (f.leastPlace + (b : Int))) + (j : Int)) = f.leastPlace + (a : Int) + (f.leastPlace + (b : Int)) + (j : Int) := by
        intro j hj; unfold wrap64; omega
      by_cases hz : N / 18446744073709551616 = 0
      · rw [hz, show bits_Len64.f ((0 : Nat) : Int) = some 0 from by decide +kernel]
        simp only [Option.bind_some]
        rw [if_neg (by decide), pr 0 (.inl rfl), jam_zero, resP_some]
        have := ew 0 (by decide)
        rw [show ((0 : Nat) : Int) = 0 from rfl] at this ⊢
        rw [this, rd _ (by omega), Nat.mod_eq_of_lt (by omega)]
        rfl
      · have hhi : N / 18446744073709551616 < 2 ^ 42 := by omega
        generalize hH : N / 18446744073709551616 = H at *
        have hlH : H.log2 ≤ 41 := by have := (Nat.log2_lt (n := H) (k := 42) hz).2 hhi; omega
        rw [c_len H (by omega) hz]
        simp only [Option.bind_some]
        rw [if_pos (by omega), c_jam _ _ (by omega) (by omega) (by omega)]
        simp only [Option.bind_some]
        rw [if_pos (by rw [IntKind.wrap_u64]; omega), show IntKind.u64.wrap (wrap64 (64 - ((H.log2 + 1 : Nat) : Int))) = ((64 - (H.log2 + 1) : Nat) : Int) from by rw [IntKind.wrap_u64]; unfold wrap64; omega]
        obtain ⟨j, hj⟩ : ∃ j, j = H.log2 + 1 := ⟨_, rfl⟩
        rw [← hj]
        have h1 := Nat.log2_self_le hz
        have h2 : H < 2 ^ j := by rw [hj]; exact Nat.lt_log2_self
        have hsplit : 2 ^ j * 2 ^ (64 - j) = 18446744073709551616 := by rw [← Nat.pow_add, show j + (64 - j) = 64 from by omega]
        have hlt : H * 2 ^ (64 - j) < 18446744073709551616 := by
          rw [← hsplit]; exact Nat.mul_lt_mul_of_pos_right h2 (pw_pos _)
        have hge : 2 ^ 63 ≤ H * 2 ^ (64 - j) := by
          have : 2 ^ H.log2 * 2 ^ (64 - j) ≤ H * 2 ^ (64 - j) := Nat.mul_le_mul_right _ h1
          rw [← Nat.pow_add, show H.log2 + (64 - j) = 63 from by omega] at this
          exact this
        rw [shl_nat H (64 - j) hlt (by omega)]
        obtain ⟨X, hX⟩ : ∃ X, X = H * 2 ^ (64 - j - 1) := ⟨_, rfl⟩
        have hX2 : H * 2 ^ (64 - j) = 2 * X := by
          rw [hX, show 64 - j = 64 - j - 1 + 1 from by omega, Nat.pow_succ]
          rw [show 64 - j - 1 + 1 - 1 = 64 - j - 1 from by omega]
          have : H * (2 ^ (64 - j - 1) * 2) = 2 * (H * 2 ^ (64 - j - 1)) := by ac_rfl
          exact this
        have hlo : N % 18446744073709551616 < 18446744073709551616 := Nat.mod_lt _ (by decide)
        have hNe : N = H * 2 ^ (64 - j) * 2 ^ j + N % 18446744073709551616 := by
          have := Nat.div_add_mod N 18446744073709551616
          rw [hH, ← hsplit, Nat.mul_comm (2 ^ j), Nat.mul_comm, ← Nat.mul_assoc] at this
          rw [← hsplit] at hH ⊢
          rw [Nat.mul_comm (2 ^ j)]
          exact this.symm
        have hjam : jam N j = H * 2 ^ (64 - j) + jam (N % 18446744073709551616) j := by
          conv => lhs; rw [hNe]
          exact jam_add _ _ j (by omega)
        have hjl : jam (N % 18446744073709551616) j < 2 ^ (64 - j) := by
          have hd : N % 18446744073709551616 / 2 ^ j < 2 ^ (64 - j) := (Nat.div_lt_iff_lt_mul (pw_pos j)).2 (by rw [Nat.mul_comm, hsplit]; exact hlo)
          have hev : ∃ c, 2 ^ (64 - j) = 2 * c := ⟨2 ^ (64 - j - 1), by rw [← Nat.pow_succ', show (64 - j - 1).succ = 64 - j from by omega]⟩
          obtain ⟨c, hc⟩ := hev
          unfold jam
          split <;> omega
        have hor : jam (N % 18446744073709551616) j ||| H * 2 ^ (64 - j) = jam N j := by
          rw [hjam, Nat.or_comm, Nat.mul_comm H]
          exact (Nat.two_pow_add_eq_or_of_lt hjl H).symm
        have hjN : jam N j < 18446744073709551616 := by
          rw [← hor]
          exact Nat.or_lt_two_pow (n := 64) (Nat.lt_of_lt_of_le hjl (Nat.pow_le_pow_right (by decide) (by omega))) hlt
        rw [or_nat _ _ (Nat.lt_of_lt_of_le hjl (by have : 2 ^ (64 - j) ≤ 2 ^ 64 := Nat.pow_le_pow_right (by decide) (by omega)
                                                   exact this)) hlt, hor, ew j (by omega), rd _ hjN]
        rw [pr j (.inr (pow_le_log2 _ _ (by
          have hNj : H * 2 ^ (64 - j) ≤ N / 2 ^ j := (Nat.le_div_iff_mul_le (pw_pos j)).2 (by rw [hNe]; exact Nat.le_add_right _ _)
          have : 2 ^ (f.fractionBits + 2) ≤ 2 ^ 63 := Nat.pow_le_pow_right (by decide) (by omega)
          omega))), resP_some]
        rfl
/-- One half of a long division: the digit that is tried is brought down to the quotient's. -/
structure Kn (y H : Nat) (q r : Nat) : Prop where
  top : 9223372036854775808 ≤ y
  lt : y < 18446744073709551616
  le : H < y
  sum : q * (y / 4294967296) + r = H
  big : q ≤ 4294967297
theorem Kn.q_lt {y H q r : Nat} (h : Kn y H q r) : H * 4294967296 / y < 4294967296 :=
  (Nat.div_lt_iff_lt_mul (by have := h.top; omega)).2 (by have := h.le; omega)
/-- The test of the loop says just whether the digit is too great. -/
theorem Kn.test {y H q r : Nat} (h : Kn y H q r) : 4294967296 * r < q * (y % 4294967296) ↔ H * 4294967296 / y < q := by
  have hy : 0 < y := by have := h.top; omega
  have hd := Nat.div_add_mod y 4294967296
  have hs := h.sum
  have e1 : q * y = q * (y / 4294967296) * 4294967296 + q * (y % 4294967296) := by
    conv => lhs; rw [← hd, Nat.mul_add]
    congr 1
    ac_rfl
  have e2 : H * 4294967296 = q * (y / 4294967296) * 4294967296 + 4294967296 * r := by
    rw [← hs, Nat.add_mul, Nat.mul_comm r]
  rw [Nat.div_lt_iff_lt_mul hy]
  omega
theorem Kn.step {y H q r : Nat} (h : Kn y H q r) (hq : H * 4294967296 / y < q) : Kn y H (q - 1) (r + y / 4294967296) := by
  refine ⟨h.top, h.lt, h.le, ?_, by have := h.big; omega⟩
  have hs := h.sum
  have hq0 : 0 < q := Nat.lt_of_le_of_lt (Nat.zero_le _) hq
  obtain ⟨c, rfl⟩ : ∃ c, q = c + 1 := ⟨q - 1, by omega⟩
  rw [show c + 1 - 1 = c from by omega]
  rw [Nat.add_mul, Nat.one_mul] at hs
  omega
/-- A rest that is great ends the loop: the digit is the quotient's. -/
theorem Kn.stop {y H q r : Nat} (h : Kn y H q r) (hr : 4294967296 ≤ r) (hq : q ≤ 4294967296) : ¬ H * 4294967296 / y < q := by
  rw [← h.test]
  have : q * (y % 4294967296) ≤ 4294967296 * 4294967295 := Nat.mul_le_mul hq (by omega)
  omega
theorem Kn.start {y H : Nat} (h1 : 9223372036854775808 ≤ y) (h2 : y < 18446744073709551616) (h3 : H < y) : Kn y H (H / (y / 4294967296)) (H - H / (y / 4294967296) * (y / 4294967296)) ∧
    H * 4294967296 / y ≤ H / (y / 4294967296) ∧ H - H / (y / 4294967296) * (y / 4294967296) < 4294967296 := by
  have hn : 2147483648 ≤ y / 4294967296 := by omega
  have hn2 : y / 4294967296 < 4294967296 := by omega
  have hd := Nat.div_add_mod H (y / 4294967296)
  have hm := Nat.mod_lt H (show 0 < y / 4294967296 by omega)
  have hle : H / (y / 4294967296) * (y / 4294967296) ≤ H := Nat.div_mul_le_self _ _
  refine ⟨⟨h1, h2, h3, by omega, ?_⟩, ?_, ?_⟩
  · have : H / (y / 4294967296) < 4294967298 := (Nat.div_lt_iff_lt_mul (by omega)).2 (by omega)
    omega
  · have hk : H * 4294967296 / y ≤ H * 4294967296 / (y / 4294967296 * 4294967296) := Nat.div_le_div_left (Nat.div_mul_le_self _ _) (by omega)
    rw [Nat.mul_div_mul_right _ _ (by decide)] at hk
    exact hk
  · rw [Nat.mul_comm] at hd; omega
theorem tst {y H q r : Nat} (h : Kn y H q r) (hr : r < 4294967296) (hq : q < 4294967296) :
    decide (IntKind.u64.wrap ((q : Int) * ((y % 4294967296 : Nat) : Int)) > IntKind.u64.wrap (IntKind.u64.wrap (4294967296 * (r : Int)) + 0)) = decide (H * 4294967296 / y < q) := by
  have h1 : q * (y % 4294967296) ≤ 4294967295 * 4294967295 := Nat.mul_le_mul (by omega) (by omega)
  have e1 : IntKind.u64.wrap ((q : Int) * ((y % 4294967296 : Nat) : Int)) = ((q * (y % 4294967296) : Nat) : Int) := by
    rw [IntKind.wrap_u64, ← Int.natCast_mul]; omega
  have e2 : IntKind.u64.wrap (IntKind.u64.wrap (4294967296 * (r : Int)) + 0) = ((4294967296 * r : Nat) : Int) := by
    rw [IntKind.wrap_u64, IntKind.wrap_u64]; omega
  rw [e1, e2, decide_eq_decide, ← h.test]
  omega
/-- The first loop ends at the quotient's first digit. -/
theorem l0_ok (y H : Nat) (x11 : Int) : ∀ (d q r : Nat), Kn y H q r → r < 4294967296 → H * 4294967296 / y + d = q → ∀ k, 2 * d + 2 ≤ k →
    ∃ j, k ≤ j + 2 * d + 2 ∧ bits_Div64.l0 k y 0 ((y / 4294967296 : Nat) : Int) ((y % 4294967296 : Nat) : Int) x11 0 0 q r =
      bits_Div64.j2 j y 0 ((y / 4294967296 : Nat) : Int) ((y % 4294967296 : Nat) : Int) x11 0 0 ((H * 4294967296 / y : Nat) : Int) := by
  intro d
  induction d with
  | zero =>
    intro q r h hr hd k hk
    obtain ⟨k, rfl⟩ : ∃ m, k = m + 2 := ⟨k - 2, by omega⟩
    have hq := h.q_lt
    have hq2 : q < 4294967296 := by omega
    refine ⟨k, by omega, ?_⟩
    simp only [bits_Div64.l0]
    rw [if_neg (by omega), tst h hr hq2, decide_eq_false (by omega)]
    simp only [bits_Div64.j1]
    rw [if_neg (by simp), show q = H * 4294967296 / y from by omega]
  | succ d ih =>
    intro q r h hr hd k hk
    obtain ⟨k, rfl⟩ : ∃ m, k = m + 2 := ⟨k - 2, by omega⟩
    have hlt : H * 4294967296 / y < q := by omega
    have hs := h.step hlt
    have hb := h.big
    have hy := h.lt
    have hn2 : y / 4294967296 < 4294967296 := by omega
    have go : bits_Div64.j1 (k + 1) y 0 ((y / 4294967296 : Nat) : Int) ((y % 4294967296 : Nat) : Int) x11 0 0 q r true =
        if IntKind.u64.wrap ((r : Int) + ((y / 4294967296 : Nat) : Int)) ≥ 4294967296 then bits_Div64.j2 k y 0 ((y / 4294967296 : Nat) : Int) ((y % 4294967296 : Nat) : Int) x11 0 0 (IntKind.u64.wrap ((q : Int) - 1))
        else bits_Div64.l0 k y 0 ((y / 4294967296 : Nat) : Int) ((y % 4294967296 : Nat) : Int) x11 0 0 (IntKind.u64.wrap ((q : Int) - 1)) (IntKind.u64.wrap ((r : Int) + ((y / 4294967296 : Nat) : Int))) := by
      simp only [bits_Div64.j1]
      rw [if_pos True.intro]
    have e1 : IntKind.u64.wrap ((r : Int) + ((y / 4294967296 : Nat) : Int)) = ((r + y / 4294967296 : Nat) : Int) := by rw [IntKind.wrap_u64]; omega
    have hq0 : 0 < q := Nat.lt_of_le_of_lt (Nat.zero_le _) hlt
    have e2 : IntKind.u64.wrap ((q : Int) - 1) = ((q - 1 : Nat) : Int) := by rw [IntKind.wrap_u64]; omega
    rw [e1, e2] at go
    have fin : ∃ j, k + 2 ≤ j + 2 * (d + 1) + 2 ∧ bits_Div64.j1 (k + 1) y 0 ((y / 4294967296 : Nat) : Int) ((y % 4294967296 : Nat) : Int) x11 0 0 q r true =
        bits_Div64.j2 j y 0 ((y / 4294967296 : Nat) : Int) ((y % 4294967296 : Nat) : Int) x11 0 0 ((H * 4294967296 / y : Nat) : Int) := by
      rw [go]
      by_cases c : ((r + y / 4294967296 : Nat) : Int) ≥ 4294967296
      · rw [if_pos c]
        have := hs.stop (by omega) (by omega)
        refine ⟨k, by omega, ?_⟩
        rw [show q - 1 = H * 4294967296 / y from by omega]
      · rw [if_neg c]
        obtain ⟨j, hj, e⟩ := ih (q - 1) (r + y / 4294967296) hs (by omega) (by omega) k (by omega)
        exact ⟨j, by omega, e⟩
    simp only [bits_Div64.l0]
    by_cases c : (q : Int) ≥ 4294967296
    · rw [if_pos c]; exact fin
    · rw [if_neg c, tst h hr (by omega), decide_eq_true hlt]; exact fin
/-- The second loop ends at the quotient's second digit. -/
theorem l1_ok (y H : Nat) (Q1 : Nat) (hQ1 : Q1 < 4294967296) : ∀ (d q r : Nat), Kn y H q r → r < 4294967296 → H * 4294967296 / y + d = q → ∀ k, 2 * d + 2 ≤ k →
    bits_Div64.l1 k y 0 ((y / 4294967296 : Nat) : Int) ((y % 4294967296 : Nat) : Int) 0 Q1 r H q =
      some (((Q1 * 4294967296 + H * 4294967296 / y : Nat) : Int), ((H * 4294967296 % y : Nat) : Int)) := by
  have out : ∀ q : Nat, q = H * 4294967296 / y → 9223372036854775808 ≤ y → y < 18446744073709551616 → H < y →
      (IntKind.u64.wrap (IntKind.u64.wrap ((Q1 : Int) * 4294967296) + (q : Int)), shr .u64 (IntKind.u64.wrap (IntKind.u64.wrap (IntKind.u64.wrap ((H : Int) * 4294967296) + 0) - IntKind.u64.wrap ((q : Int) * (y : Int)))) 0) =
      (((Q1 * 4294967296 + H * 4294967296 / y : Nat) : Int), ((H * 4294967296 % y : Nat) : Int)) := by
    intro q hq h1 h2 h3
    have hql : q < 4294967296 := by
      rw [hq]; exact (Nat.div_lt_iff_lt_mul (by omega)).2 (by omega)
    rw [← hq]
    have hd := Nat.div_add_mod (H * 4294967296) y
    have hm := Nat.mod_lt (H * 4294967296) (show 0 < y by omega)
    rw [← hq, Nat.mul_comm] at hd
    generalize H * 4294967296 % y = r at *
    refine Prod.ext ?_ ?_
    · show IntKind.u64.wrap (IntKind.u64.wrap ((Q1 : Int) * 4294967296) + (q : Int)) = _
      rw [IntKind.wrap_u64, IntKind.wrap_u64]; omega
    · show shr .u64 (IntKind.u64.wrap (IntKind.u64.wrap (IntKind.u64.wrap ((H : Int) * 4294967296) + 0) - IntKind.u64.wrap ((q : Int) * (y : Int)))) 0 = _
      have e : IntKind.u64.wrap (IntKind.u64.wrap (IntKind.u64.wrap ((H : Int) * 4294967296) + 0) - IntKind.u64.wrap ((q : Int) * (y : Int))) = (r : Int) := by
        rw [IntKind.wrap_u64, IntKind.wrap_u64, IntKind.wrap_u64, IntKind.wrap_u64, ← Int.natCast_mul]
        generalize q * y = Z at *
        omega
      rw [e]
      have := shr_nat r 0 (by decide)
      rw [Nat.pow_zero, Nat.div_one] at this
      exact this
  intro d
  induction d with
  | zero =>
    intro q r h hr hd k hk
    obtain ⟨k, rfl⟩ : ∃ m, k = m + 2 := ⟨k - 2, by omega⟩
    have hq := h.q_lt
    have hq2 : q < 4294967296 := by omega
    simp only [bits_Div64.l1]
    rw [if_neg (by omega), tst h hr hq2, decide_eq_false (by omega)]
    simp only [bits_Div64.j4]
    rw [if_neg (by simp), if_pos (by decide), out q (by omega) h.top h.lt h.le]
  | succ d ih =>
    intro q r h hr hd k hk
    obtain ⟨k, rfl⟩ : ∃ m, k = m + 2 := ⟨k - 2, by omega⟩
    have hlt : H * 4294967296 / y < q := by omega
    have hs := h.step hlt
    have hb := h.big
    have hy := h.lt
    have hn2 : y / 4294967296 < 4294967296 := by omega
    have e1 : IntKind.u64.wrap ((r : Int) + ((y / 4294967296 : Nat) : Int)) = ((r + y / 4294967296 : Nat) : Int) := by rw [IntKind.wrap_u64]; omega
    have hq0 : 0 < q := Nat.lt_of_le_of_lt (Nat.zero_le _) hlt
    have e2 : IntKind.u64.wrap ((q : Int) - 1) = ((q - 1 : Nat) : Int) := by rw [IntKind.wrap_u64]; omega
    have fin : bits_Div64.j4 (k + 1) y 0 ((y / 4294967296 : Nat) : Int) ((y % 4294967296 : Nat) : Int) 0 Q1 r H q true =
        some (((Q1 * 4294967296 + H * 4294967296 / y : Nat) : Int), ((H * 4294967296 % y : Nat) : Int)) := by
      simp only [bits_Div64.j4]
      rw [if_pos True.intro, e1, e2]
      by_cases c : ((r + y / 4294967296 : Nat) : Int) ≥ 4294967296
      · rw [if_pos c, if_pos (by decide)]
        have := hs.stop (by omega) (by omega)
        rw [out (q - 1) (by omega) h.top h.lt h.le]
      · rw [if_neg c]
        exact ih (q - 1) (r + y / 4294967296) hs (by omega) (by omega) k (by omega)
    simp only [bits_Div64.l1]
    by_cases c : (q : Int) ≥ 4294967296
    · rw [if_pos c]; exact fin
    · rw [if_neg c, tst h hr (by omega), decide_eq_true hlt]; exact fin
theorem Kn.two {y H q r : Nat} (h : Kn y H q r) : q ≤ H * 4294967296 / y + 2 := by
  apply Classical.byContradiction; intro c
  have h1 : H * 4294967296 / y < q := by omega
  have s1 := h.step h1
  have h2 : H * 4294967296 / y < q - 1 := by omega
  have s2 := s1.step h2
  have hy := h.top
  have := h.big
  have hq : 2 ≤ q := by
    have := Nat.zero_le (H * 4294967296 / y); omega
  have st := s2.stop (by omega) (by omega)
  omega
theorem c_lz (M : Nat) (hM : M < 18446744073709551616) (h0 : M ≠ 0) : bits_LeadingZeros64.f (M : Int) = some ((63 - M.log2 : Nat) : Int) := by
  have hlog : M.log2 ≤ 63 := by have := (Nat.log2_lt (n := M) (k := 64) h0).2 hM; omega
  unfold bits_LeadingZeros64.f
  rw [c_len M hM h0]
  simp only [Option.bind_some]
  rw [show wrap64 (64 - ((M.log2 + 1 : Nat) : Int)) = ((63 - M.log2 : Nat) : Int) from by unfold wrap64; omega]
theorem tdiv_nat (a b : Nat) : Int.tdiv (a : Int) (b : Int) = ((a / b : Nat) : Int) := rfl
theorem c_div64 (H y : Nat) (h1 : 9223372036854775808 ≤ y) (h2 : y < 18446744073709551616) (h3 : H < y) (h0 : H ≠ 0) (k : Nat) (hk : 20 ≤ k) (E : Nat) (hE : E = 4294967296 * 4294967296) :
    bits_Div64.f k H 0 y = some (((H * E / y : Nat) : Int), ((H * E % y : Nat) : Int)) := by
  have hn : 2147483648 ≤ y / 4294967296 := by omega
  have hn2 : y / 4294967296 < 4294967296 := by omega
  have hlog : y.log2 = 63 := (Nat.log2_eq_iff (by omega)).2 ⟨by omega, by omega⟩
  unfold bits_Div64.f
  rw [if_neg (by omega), if_neg (by omega), if_neg (by omega), c_lz y h2 (by omega), hlog]
  simp only [Option.bind_some]
  have ez : IntKind.u64.wrap (((63 - 63 : Nat) : Int)) = 0 := by decide +kernel
  rw [ez, if_pos (by decide), if_pos (by decide +kernel)]
  have es : ∀ z : Nat, z < 18446744073709551616 → shl .u64 (z : Int) 0 = (z : Int) := by
    intro z hz
    have := shl_nat z 0 (by omega) (by decide)
    rw [Nat.pow_zero, Nat.mul_one] at this
    exact this
  have e0 : shl .u64 0 0 = 0 := es 0 (by decide)
  have eor : Go.bits .or .u64 (shl .u64 (H : Int) 0) (shr .u64 0 (IntKind.u64.wrap (64 - 0))) = (H : Int) := by
    rw [es H (by omega), show shr .u64 0 (IntKind.u64.wrap (64 - 0)) = ((0 : Nat) : Int) from by decide +kernel, or_nat H 0 (by omega) (by decide), Nat.or_zero]
  have eand : Go.bits .and .u64 (shl .u64 (y : Int) 0) 4294967295 = ((y % 4294967296 : Nat) : Int) := by
    rw [es y h2]; exact and_mask y 32 h2 (by decide)
  rw [eor, eand, es y h2, e0, show Go.bits .and .u64 0 4294967295 = 0 from by decide +kernel]
  rw [show (y : Int) / 4294967296 = ((y / 4294967296 : Nat) : Int) from by omega, if_neg (by omega)]
  obtain ⟨k1, k2, k3⟩ := Kn.start h1 h2 h3
  have hd1 : H / (y / 4294967296) ≤ H := Nat.div_le_self _ _
  have hd2 : H / (y / 4294967296) * (y / 4294967296) ≤ H := Nat.div_mul_le_self _ _
  have et : IntKind.u64.wrap (Int.tdiv (H : Int) ((y / 4294967296 : Nat) : Int)) = ((H / (y / 4294967296) : Nat) : Int) := by
    rw [tdiv_nat, IntKind.wrap_u64]
    generalize H / (y / 4294967296) = q at *
    omega
  have er : IntKind.u64.wrap ((H : Int) - IntKind.u64.wrap (((H / (y / 4294967296) : Nat) : Int) * ((y / 4294967296 : Nat) : Int))) = ((H - H / (y / 4294967296) * (y / 4294967296) : Nat) : Int) := by
    rw [← Int.natCast_mul]
    generalize H / (y / 4294967296) * (y / 4294967296) = z at *
    rw [IntKind.wrap_u64, IntKind.wrap_u64]; omega
  rw [et, er]
  have two := k1.two
  obtain ⟨j, hj, e⟩ := l0_ok y H (H : Int) (H / (y / 4294967296) - H * 4294967296 / y) _ _ k1 k3 (by omega) k (by omega)
  rw [show ((0 : Int) / 4294967296) = 0 from rfl, e]
  obtain ⟨j, rfl⟩ : ∃ i, j = i + 1 := ⟨j - 1, by omega⟩
  simp only [bits_Div64.j2]
  rw [if_neg (by omega)]
  have hq := k1.q_lt
  have hdm := Nat.div_add_mod (H * 4294967296) y
  have hml := Nat.mod_lt (H * 4294967296) (show 0 < y by omega)
  generalize hQ : H * 4294967296 / y = Q at *
  generalize hR : H * 4294967296 % y = R at *
  have eu : IntKind.u64.wrap (IntKind.u64.wrap (IntKind.u64.wrap ((H : Int) * 4294967296) + 0) - IntKind.u64.wrap ((Q : Int) * (y : Int))) = (R : Int) := by
    rw [IntKind.wrap_u64, IntKind.wrap_u64, IntKind.wrap_u64, IntKind.wrap_u64, ← Int.natCast_mul, Nat.mul_comm Q]
    generalize y * Q = Z at *
    omega
  rw [eu]
  obtain ⟨m1, m2, m3⟩ := Kn.start h1 h2 hml
  have hd3 : R / (y / 4294967296) ≤ R := Nat.div_le_self _ _
  have hd4 : R / (y / 4294967296) * (y / 4294967296) ≤ R := Nat.div_mul_le_self _ _
  have et2 : IntKind.u64.wrap (Int.tdiv (R : Int) ((y / 4294967296 : Nat) : Int)) = ((R / (y / 4294967296) : Nat) : Int) := by
    rw [tdiv_nat, IntKind.wrap_u64]
    generalize R / (y / 4294967296) = q at *
    omega
  have er2 : IntKind.u64.wrap ((R : Int) - IntKind.u64.wrap (((R / (y / 4294967296) : Nat) : Int) * ((y / 4294967296 : Nat) : Int))) = ((R - R / (y / 4294967296) * (y / 4294967296) : Nat) : Int) := by
    rw [← Int.natCast_mul]
    generalize R / (y / 4294967296) * (y / 4294967296) = z at *
    rw [IntKind.wrap_u64, IntKind.wrap_u64]; omega
  rw [et2, er2]
  have two2 := m1.two
  rw [l1_ok y R Q hq (R / (y / 4294967296) - R * 4294967296 / y) _ _ m1 m3 (by omega) j (by omega)]
  -- the two digits are the quotient
  have hN : H * E = y * (Q * 4294967296 + R * 4294967296 / y) + R * 4294967296 % y := by
    have d2 := Nat.div_add_mod (R * 4294967296) y
    have : H * E = (y * Q + R) * 4294967296 := by rw [hdm, hE, Nat.mul_assoc]
    rw [this, Nat.add_mul, Nat.mul_add, ← Nat.mul_assoc]
    omega
  have hmod := Nat.mod_lt (R * 4294967296) (show 0 < y by omega)
  have f1 : H * E / y = Q * 4294967296 + R * 4294967296 / y := by
    rw [hN, Nat.mul_add_div (by omega), Nat.div_eq_of_lt hmod, Nat.add_zero]
  have f2 : H * E % y = R * 4294967296 % y := by
    rw [hN, Nat.mul_add_mod, Nat.mod_eq_of_lt hmod]
  rw [f1, f2]
end Go.Proofs.Ytjfmomogidgbpaa.Pure
namespace Go.Proofs.Ytjfmomogidgbpaa.Pure
set_option linter.unusedVariables false
set_option linter.unusedSimpArgs false
open Go.RowKit Go.Proofs.Ytjfmomogidgbpaa.PFl Go.Proofs.Ytjfmomogidgbpaa.Fl Go.Proofs.YtjfmomogidgbpaaW.PrintWords
/-- A quotient's digits, made and rounded. -/
theorem c_div_core {p q f} (h : Pq p q f) (s : Bool) (m n u v : Nat) (i j : Int) (hm : m ≠ 0) (hn : n ≠ 0) (hm2 : m < 2 * f.binade)
    (x1 : 4611686018427387904 ≤ m * 2 ^ u) (x2 : m * 2 ^ u < n * 2 ^ v) (y1 : 9223372036854775808 ≤ n * 2 ^ v) (y2 : n * 2 ^ v < 18446744073709551616) (ht : v ≤ 63) (hu : u ≤ 63) (e : Int) (he : e = i - u - (j - v) - 64) (k : Nat) (hk : 20 ≤ k)
    (t t' : Bool) (hs : s = (t ^^ t')) :
    ((bits_Div64.f k ((m * 2 ^ u : Nat) : Int) 0 ((n * 2 ^ v : Nat) : Int)).bind fun b => (ff_round.f k p q s b.1 e (b.2 != 0)).bind fun r => some r) =
      some (resP p (((Ieee.Datum.number t m i).quotient (f.fractionBits + 2) (.number t' n j)).map f.write)) := by
  obtain ⟨w1, w2, w3, w4, w5, w6, w7, w8, w9, w10, w11, w12⟩ := c_w h
  obtain ⟨E, hE⟩ : ∃ E : Nat, E = 4294967296 * 4294967296 := ⟨_, rfl⟩
  have hX0 : m * 2 ^ u ≠ 0 := by omega
  rw [c_div64 _ _ y1 y2 x2 hX0 k hk E hE]
  simp only [Option.bind_some]
  have hE2 : E = 2 ^ 64 := by rw [hE]
  obtain ⟨K, hK⟩ : ∃ K : Nat, K + v = u + 64 := ⟨u + 64 - v, by omega⟩
  have hXE : m * 2 ^ u * E = m * 2 ^ (K + v) := by rw [hE2, hK, Nat.pow_add, Nat.mul_assoc]
  have sc := quo_scale m n 0 K (Nat.pos_of_ne_zero hn) K (by omega) v
  rw [Nat.zero_add] at sc
  rw [← hXE] at sc
  have hq : 4611686018427387904 ≤ m * 2 ^ K / n := by
    rw [← sc.1]
    refine (Nat.le_div_iff_mul_le (by omega)).2 ?_
    have a : 4611686018427387904 * (n * 2 ^ v) ≤ 4611686018427387904 * E := Nat.mul_le_mul_left _ (by rw [hE]; omega)
    exact Nat.le_trans a (Nat.mul_le_mul_right _ x1)
  have hlt : m * 2 ^ u * E / (n * 2 ^ v) < 18446744073709551616 := by
    refine (Nat.div_lt_iff_lt_mul (by omega)).2 ?_
    have : m * 2 ^ u * E < n * 2 ^ v * E := Nat.mul_lt_mul_of_pos_right x2 (by omega)
    rw [Nat.mul_comm _ (n * 2 ^ v)]
    have hE3 : E = 18446744073709551616 := by rw [hE]
    rw [hE3] at this ⊢
    exact this
  have pr := quotient_prog f t t' m n i j (Nat.pos_of_ne_zero hm) (Nat.pos_of_ne_zero hn) hm2 K (by
    have : 2 ^ (f.fractionBits + 1) ≤ 2 ^ 62 := Nat.pow_le_pow_right (by decide) (by omega)
    exact Nat.le_trans this hq)
  rw [pr]
  have hb : (((m * 2 ^ u * E % (n * 2 ^ v) : Nat) : Int) != 0).toNat = if m * 2 ^ K % n = 0 then 0 else 1 := by
    by_cases z : m * 2 ^ K % n = 0
    · rw [if_pos z, sc.2.2 z]; rfl
    · have : m * 2 ^ u * E % (n * 2 ^ v) ≠ 0 := fun x => z (sc.2.1 x)
      rw [if_neg z, bne_iff_ne.2 (by omega)]; rfl
  rw [c_round' h s _ hlt e _ (fun _ => by rw [sc.1]; exact Nat.le_trans (by decide) hq) k (by omega)]
  simp only [Option.bind_some]
  rw [hb, sc.1, hs, he]
  rw [show i - (u : Int) - (j - (v : Int)) - 64 - 1 = i - j - 1 - (K : Int) from by omega]
  rfl
/-- The quotient of two words that are no NaNs. -/
theorem c_div {p q f} (h : Pq p q f) (A B : Nat) (hA : A < 2 * f.signWeight) (hB : B < 2 * f.signWeight) (iA : rungOf f A ≤ f.infRung) (iB : rungOf f B ≤ f.infRung) (k : Nat) (hk : 30 ≤ k) :
    ff_div.f k p q A B = some (resP p (f.div A B)) := by
  obtain ⟨w1, w2, w3, w4, w5, w6, w7, w8, w9, w10, w11, w12⟩ := c_w h
  have hb := bin_ok h
  have ip : 0 < f.infRung := Nat.lt_of_lt_of_le (pw_pos _) hb
  have hA' : A < 18446744073709551616 := by omega
  have hB' : B < 18446744073709551616 := by omega
  have eneg : (negOf f A != negOf f B) = (negOf f A ^^ negOf f B) := by cases negOf f A <;> cases negOf f B <;> rfl
  obtain ⟨k, rfl⟩ : ∃ m, k = m + 2 := ⟨k - 2, by omega⟩
  unfold ff_div.f Ieee.Format.div
  rw [c_neg h A hA', c_neg h B hB', c_size h A hA', c_size h B hB', c_inf h]
  simp only [Option.bind_some]
  rw [eneg]
  have j0t : ff_div.j0 (k + 2) A B (negOf f A ^^ negOf f B) (rungOf f A) (rungOf f B) f.infRung true p q = some (resP p none) := by
    simp only [ff_div.j0]
    rw [if_pos True.intro, c_nanv h]
    rfl
  have winf : ∀ s : Bool, ff_signed.f p q s f.infRung = some (resP p (some (f.word s f.infRung))) := fun s => c_signed h s _ w12
  have wz : ∀ s : Bool, ff_signed.f p q s 0 = some (resP p (some (f.word s 0))) := fun s => c_signed h s 0 (by omega)
  have j1t : ff_div.j1 (k + 1) A B (negOf f A ^^ negOf f B) (rungOf f A) (rungOf f B) f.infRung true p q = some (resP p (some (f.word (negOf f A ^^ negOf f B) f.infRung))) := by
    simp only [ff_div.j1]
    rw [if_pos True.intro, winf]
    rfl
  by_cases ci : (rungOf f A : Int) = (f.infRung : Int)
  · rw [if_pos ci, read_inf f A hb (by omega)]
    by_cases cj : (rungOf f B : Int) = (f.infRung : Int)
    · rw [if_pos cj, j0t, read_inf f B hb (by omega)]; rfl
    · rw [if_neg cj, if_neg (by omega), read_num f B (by omega)]
      simp only [ff_div.j0]
      rw [if_neg (by simp), if_pos ci, j1t]
      rfl
  · rw [if_neg ci, read_num f A (by omega)]
    have main : (rungOf f A : Int) ≠ 0 ∨ (rungOf f B : Int) ≠ 0 → ff_div.j0 (k + 2) A B (negOf f A ^^ negOf f B) (rungOf f A) (rungOf f B) f.infRung false p q =
        some (resP p (((Ieee.Datum.number (negOf f A) (magOf f (rungOf f A)) (f.leastPlace + (plOf f (rungOf f A) : Nat))).quotient (f.fractionBits + 2) (f.read B)).map f.write)) := by
      intro nz
      simp only [ff_div.j0]
      rw [if_neg (by simp), if_neg ci]
      by_cases zb : (rungOf f B : Int) = 0
      · rw [beq_iff_eq.2 zb, j1t, read_num f B (by omega), (mag_zero f (rungOf f B)).2 (by omega)]
        have hm0 : magOf f (rungOf f A) ≠ 0 := fun e => by have := (mag_zero f _).1 e; omega
        simp only [Ieee.Datum.quotient]
        rw [if_pos True.intro, if_neg hm0]
        rfl
      · rw [beq_eq_false_iff_ne.2 zb]
        simp only [ff_div.j1]
        rw [if_neg (by simp)]
        by_cases cj : (rungOf f B : Int) = (f.infRung : Int)
        · rw [if_pos cj, wz, read_inf f B hb (by omega)]
          simp only [Ieee.Datum.quotient, Option.map_some, Option.bind_some]
          show _ = some (resP p (some (f.nearest _ 0 0)))
          rw [nearest_zero]
        · rw [if_neg cj, read_num f B (by omega)]
          have hn0 : magOf f (rungOf f B) ≠ 0 := fun e => by have := (mag_zero f _).1 e; omega
          by_cases za : (rungOf f A : Int) = 0
          · rw [if_pos za, wz, (mag_zero f (rungOf f A)).2 (by omega)]
            simp only [Ieee.Datum.quotient, Option.bind_some]
            rw [if_neg hn0]
            simp only [Nat.shiftLeft_eq, Nat.zero_mul, Nat.zero_div, Nat.zero_mod, Option.map_some]
            show _ = some (resP p (some (f.nearest _ 0 _)))
            rw [nearest_zero]
          · rw [if_neg za, c_parts h A hA', c_parts h B hB']
            simp only [Option.bind_some]
            have hm0 : magOf f (rungOf f A) ≠ 0 := fun e => by have := (mag_zero f _).1 e; omega
            have mA := mag_lt f (rungOf f A); have mB := mag_lt f (rungOf f B)
            have pl : ∀ r, r ≤ f.infRung → plOf f r ≤ 4096 := by
              intro r hr
              unfold plOf
              have : 2 ^ f.exponentBits ≤ 2 ^ 11 := Nat.pow_le_pow_right (by decide) w5
              have := Nat.mul_le_mul_right f.binade this
              have hlt : r < 4096 * f.binade := by omega
              have : r / f.binade < 4096 := (Nat.div_lt_iff_lt_mul (pw_pos f.fractionBits)).2 hlt
              omega
            have pA := pl _ iA
            have pB := pl _ iB
            generalize plOf f (rungOf f A) = a at *
            generalize plOf f (rungOf f B) = b at *
            generalize magOf f (rungOf f A) = m at *
            generalize magOf f (rungOf f B) = n at *
            have lg : ∀ z : Nat, z ≠ 0 → z < 2 * f.binade → z.log2 ≤ 52 ∧ 9223372036854775808 ≤ z * 2 ^ (63 - z.log2) ∧ z * 2 ^ (63 - z.log2) < 18446744073709551616 := by
              intro z h0 hl
              have hz : z.log2 ≤ 52 := by have := (Nat.log2_lt (n := z) (k := 53) h0).2 (by show z < 2 ^ 53; omega); omega
              have a1 : 2 ^ z.log2 * 2 ^ (63 - z.log2) ≤ z * 2 ^ (63 - z.log2) := Nat.mul_le_mul_right _ (Nat.log2_self_le h0)
              have a2 : z * 2 ^ (63 - z.log2) < 2 ^ (z.log2 + 1) * 2 ^ (63 - z.log2) := Nat.mul_lt_mul_of_pos_right Nat.lt_log2_self (pw_pos _)
              rw [← Nat.pow_add, show z.log2 + (63 - z.log2) = 63 from by omega] at a1
              rw [← Nat.pow_add, show z.log2 + 1 + (63 - z.log2) = 64 from by omega] at a2
              exact ⟨hz, a1, a2⟩
            obtain ⟨l1, l2, l3⟩ := lg m hm0 mA
            obtain ⟨l4, l5, l6⟩ := lg n hn0 mB
            rw [c_lz m (by omega) hm0, c_lz n (by omega) hn0]
            simp only [Option.bind_some]
            have e1 : IntKind.u64.wrap ((63 - m.log2 : Nat) : Int) = ((63 - m.log2 : Nat) : Int) := by rw [IntKind.wrap_u64]; omega
            have e2 : IntKind.u64.wrap ((63 - n.log2 : Nat) : Int) = ((63 - n.log2 : Nat) : Int) := by rw [IntKind.wrap_u64]; omega
            rw [e1, e2, if_pos (by omega), if_pos (by omega), shl_nat m _ l3 (by omega), shl_nat n _ l6 (by omega)]
            obtain ⟨u, hu⟩ : ∃ u, 63 - m.log2 = u + 1 := ⟨62 - m.log2, by omega⟩
            rw [hu] at l2 l3 ⊢
            have hX : m * 2 ^ (u + 1) = 2 * (m * 2 ^ u) := by
              rw [Nat.pow_succ]
              have : m * (2 ^ u * 2) = 2 * (m * 2 ^ u) := by ac_rfl
              exact this
            by_cases c : ((m * 2 ^ (u + 1) : Nat) : Int) ≥ ((n * 2 ^ (63 - n.log2) : Nat) : Int)
            · rw [if_pos c]
              rw [show ((m * 2 ^ (u + 1) : Nat) : Int) / 2 = ((m * 2 ^ u : Nat) : Int) from by omega]
              exact c_div_core h _ m n u (63 - n.log2) _ _ hm0 hn0 mA (by omega) (by omega) l5 l6 (by omega) (by omega) _ (by unfold wrap64; omega) k (by omega) _ _ rfl
            · rw [if_neg c]
              exact c_div_core h _ m n (u + 1) (63 - n.log2) _ _ hm0 hn0 mA (by omega) (by omega) l5 l6 (by omega) (by omega) _ (by unfold wrap64; omega) k (by omega) _ _ rfl
    by_cases za : (rungOf f A : Int) = 0
    · rw [if_pos za]
      by_cases zb : (rungOf f B : Int) = 0
      · rw [beq_iff_eq.2 zb, j0t, read_num f B (by omega), (mag_zero f (rungOf f A)).2 (by omega), (mag_zero f (rungOf f B)).2 (by omega)]
        rfl
      · rw [beq_eq_false_iff_ne.2 zb]; exact main (.inr zb)
    · rw [if_neg za]; exact main (.inl za)
theorem or_zero (x y : Nat) (hx : x < 18446744073709551616) (hy : y < 18446744073709551616) : Go.bits .or .u64 (x : Int) (y : Int) = 0 ↔ x = 0 ∧ y = 0 := by
  rw [or_nat x y hx hy]
  constructor
  · intro h
    have h2 : x ||| y = 0 := by omega
    have h3 : x ≤ x ||| y := Nat.left_le_or
    have h4 : y ≤ x ||| y := Nat.right_le_or
    omega
  · rintro ⟨rfl, rfl⟩; rfl
theorem c_less {p q f} (h : Pq p q f) (A B : Nat) (hA : A < 18446744073709551616) (hB : B < 18446744073709551616) : ff_less.f p q A B = some (lessF f A B) := by
  obtain ⟨w1, w2, w3, w4, w5, w6, w7, w8, w9, w10, w11, w12⟩ := c_w h
  have rA : rungOf f A < f.signWeight := Nat.mod_lt _ (pw_pos _)
  have rB : rungOf f B < f.signWeight := Nat.mod_lt _ (pw_pos _)
  unfold ff_less.f lessF
  rw [c_size h A hA, c_size h B hB, c_neg h A hA, c_neg h B hB]
  simp only [Option.bind_some]
  by_cases z : rungOf f A = 0 ∧ rungOf f B = 0
  · rw [if_pos ((or_zero _ _ (by omega) (by omega)).2 z), if_pos z]
  · rw [if_neg (fun x => z ((or_zero _ _ (by omega) (by omega)).1 x)), if_neg z]
    cases negOf f A <;> cases negOf f B <;> simp only [bne_self_eq_false, Bool.false_eq_true, if_false, if_true, ne_eq, not_true_eq_false, not_false_eq_true, reduceCtorEq, Bool.true_bne, Bool.false_bne, Bool.not_true, Bool.not_false]
    · refine congrArg some ?_
      rw [decide_eq_decide]; omega
    · refine congrArg some ?_
      rw [decide_eq_decide]; omega
/-- Words of a format, cut to it. -/
theorem and_nat (x y : Nat) (hx : x < 18446744073709551616) (hy : y < 18446744073709551616) : Go.bits .and .u64 (x : Int) (y : Int) = ((x &&& y : Nat) : Int) := by
  unfold Go.bits
  have hb : IntKind.bits .u64 = 64 := rfl
  simp only
  rw [IntKind.wrap_u64, BitVec.toNat_and, BitVec.ofInt_natCast, BitVec.ofInt_natCast, BitVec.toNat_ofNat, BitVec.toNat_ofNat, hb,
    Nat.mod_eq_of_lt (show x < 2 ^ 64 from hx), Nat.mod_eq_of_lt (show y < 2 ^ 64 from hy)]
  have : x &&& y < 2 ^ 64 := Nat.lt_of_le_of_lt Nat.and_le_left hx
  omega
/-- The lesser, or the greater one. -/
theorem c_end {p q f} (h : Pq p q f) (most : Bool) (A B : Nat) (hA : A < 2 * f.signWeight) (hB : B < 2 * f.signWeight) :
    ff_end.f p q most A B = some ((if rungOf f A = 0 ∧ rungOf f B = 0 then (if most = negOf f A then B else A) else if lessF f A B = most then B else A : Nat) : Int) := by
  obtain ⟨w1, w2, w3, w4, w5, w6, w7, w8, w9, w10, w11, w12⟩ := c_w h
  have rA : rungOf f A < f.signWeight := Nat.mod_lt _ (pw_pos _)
  have rB : rungOf f B < f.signWeight := Nat.mod_lt _ (pw_pos _)
  unfold ff_end.f
  rw [c_size h A (by omega), c_size h B (by omega), c_less h A B (by omega) (by omega)]
  simp only [Option.bind_some]
  by_cases z : rungOf f A = 0 ∧ rungOf f B = 0
  · rw [if_pos ((or_zero _ _ (by omega) (by omega)).2 z), if_pos z]
    have eA := word_of f A hA
    have eB := word_of f B hB
    rw [z.1] at eA
    rw [z.2] at eB
    have w0 : f.word false 0 = 0 := rfl
    have w1 : f.word true 0 = f.signWeight := rfl
    rw [and_nat A B (by omega) (by omega), or_nat A B (by omega) (by omega)]
    cases nA : negOf f A <;> cases nB : negOf f B <;> rw [nA] at eA <;> rw [nB] at eB
    · rw [w0] at eA eB; subst eA; subst eB; cases most <;> rfl
    · rw [w0] at eA; rw [w1] at eB; rw [← eA, ← eB]
      cases most <;> simp
    · rw [w1] at eA; rw [w0] at eB; rw [← eA, ← eB]
      cases most <;> simp
    · rw [w1] at eA eB; rw [← eA, ← eB]
      cases most <;> simp
  · rw [if_neg (fun x => z ((or_zero _ _ (by omega) (by omega)).1 x)), if_neg z]
    by_cases c : lessF f A B = most
    · rw [if_pos (beq_iff_eq.2 c), if_pos c]
    · rw [if_neg (fun x => c (beq_iff_eq.1 x)), if_neg c]
end Go.Proofs.Ytjfmomogidgbpaa.Pure
namespace Go.Proofs.Ytjfmomogidgbpaa.Pure
set_option linter.unusedVariables false
set_option linter.unusedSimpArgs false
open Go.RowKit Go.Proofs.Ytjfmomogidgbpaa.PFl Go.Proofs.Ytjfmomogidgbpaa.Fl Go.Proofs.YtjfmomogidgbpaaW.PrintWords
/-- A size that is right, its format, and what is told of both. -/
structure Sz (n p q : Int) (f : Ieee.Format) : Prop where
  ok : n = 32 ∨ n = 64
  pq : Pq p q f
  of : floats_of.f n = some (p, q)
  fm : fmtOf n = f
  sg : sgnI n = (f.signWeight : Int)
  res : ∀ o, resP p o = resOf n o
  cut : ∀ a : Nat, a < 18446744073709551616 → a % (2 * f.signWeight) = wOf n (a : Int)
theorem sz (n : Int) (h : n = 32 ∨ n = 64) : ∃ p q f, Sz n p q f := by
  rcases h with rfl | rfl
  · refine ⟨23, 8, Ieee.single, .inl rfl, .inl ⟨rfl, rfl, rfl⟩, rfl, rfl, by decide +kernel, ?_, ?_⟩
    · intro o; cases o <;> rfl
    · intro a ha
      rw [s_sgn]
      show a % 4294967296 = ((a : Int) % 4294967296).toNat
      omega
  · refine ⟨52, 11, Ieee.double, .inr rfl, .inr ⟨rfl, rfl, rfl⟩, rfl, rfl, by decide +kernel, ?_, ?_⟩
    · intro o; cases o <;> rfl
    · intro a ha
      rw [d_sgn]
      show a % 18446744073709551616 = (a : Int).toNat
      omega
theorem Sz.lt {n p q f} (h : Sz n p q f) (a : Nat) (ha : a < 18446744073709551616) : wOf n (a : Int) < 2 * f.signWeight := by
  rw [← h.cut a ha]
  exact Nat.mod_lt _ (by have : 0 < f.signWeight := pw_pos _
                         omega)
theorem of_wrong (n : Int) (h : n ≠ 32) (h' : n ≠ 64) : floats_of.f n = some (0, 0) := by
  unfold floats_of.f; rw [if_neg h, if_neg h']
theorem none_wrong : ff_none.f 0 0 = some true := by decide +kernel
theorem Sz.none {n p q f} (h : Sz n p q f) : ff_none.f p q = some false := c_none h.pq
/-- The opposite's bits. -/
theorem xor_sign {p q f} (h : Pq p q f) (B : Nat) (hB : B < 2 * f.signWeight) :
    Go.bits .xor .u64 (B : Int) (f.signWeight : Int) = ((f.word (!negOf f B) (rungOf f B) : Nat) : Int) := by
  obtain ⟨k, hk, hk2, e⟩ := sgn_pow h
  obtain ⟨w1, w2, w3, w4, w5, w6, w7, w8, w9, w10, w11, w12⟩ := c_w h
  have rB : rungOf f B < f.signWeight := Nat.mod_lt _ (pw_pos _)
  have eB := word_of f B hB
  unfold Go.bits
  have hb : IntKind.bits .u64 = 64 := rfl
  have hs : f.signWeight < 2 ^ 64 := by omega
  have hBl : B < 2 ^ 64 := by omega
  simp only
  rw [IntKind.wrap_u64, BitVec.toNat_xor, BitVec.ofInt_natCast, BitVec.ofInt_natCast, BitVec.toNat_ofNat, BitVec.toNat_ofNat, hb, Nat.mod_eq_of_lt hBl, Nat.mod_eq_of_lt hs]
  have ex : B ^^^ f.signWeight = f.word (!negOf f B) (rungOf f B) := by
    rw [e] at rB ⊢
    have w0 : ∀ r, f.word false r = r := fun r => rfl
    have wt : ∀ r, f.word true r = 2 ^ k + r := fun r => by rw [← e]; rfl
    have o : ∀ r, r < 2 ^ k → r ^^^ 2 ^ k = 2 ^ k + r := by
      intro r hr
      have h1 := Nat.two_pow_add_eq_or_of_lt hr 1
      rw [Nat.mul_one] at h1
      rw [h1, Nat.xor_comm]
      apply Nat.eq_of_testBit_eq
      intro i
      rw [Nat.testBit_xor, Nat.testBit_or, Nat.testBit_two_pow]
      by_cases c : k = i
      · subst c
        rw [Nat.testBit_lt_two_pow hr]; simp
      · simp [c]
    cases hn : negOf f B
    · rw [hn, w0] at eB
      rw [← eB]
      show rungOf f B ^^^ 2 ^ k = f.word true _
      have : rungOf f (rungOf f B) = rungOf f B := by unfold rungOf; rw [Nat.mod_mod]
      rw [this, wt, o _ rB]
    · rw [hn, wt] at eB
      have : B ^^^ 2 ^ k = rungOf f B := by
        conv => lhs; rw [← eB]
        rw [← o _ rB, Nat.xor_assoc, Nat.xor_self, Nat.xor_zero]
      rw [this]; rfl
  rw [ex]
  have : f.word (!negOf f B) (rungOf f B) < 18446744073709551616 := by
    unfold Ieee.Format.word; split <;> omega
  omega
theorem read_opp {p q f} (h : Pq p q f) (B : Nat) (hB : B < 2 * f.signWeight) : f.read (f.word (!negOf f B) (rungOf f B)) = (f.read B).opposite := by
  obtain ⟨w1, w2, w3, w4, w5, w6, w7, w8, w9, w10, w11, w12⟩ := c_w h
  have hb := bin_ok h
  have rB : rungOf f B < f.signWeight := Nat.mod_lt _ (pw_pos _)
  have hr : rungOf f (f.word (!negOf f B) (rungOf f B)) = rungOf f B ∧ negOf f (f.word (!negOf f B) (rungOf f B)) = !negOf f B := by
    unfold Ieee.Format.word
    cases hn : negOf f B
    · simp only [Bool.not_false, if_true]
      have : f.signWeight + rungOf f B = f.signWeight * 1 + rungOf f B := by rw [Nat.mul_one]
      constructor
      · unfold rungOf at *
        rw [Nat.add_mod_left, Nat.mod_mod]
      · show ((f.signWeight + rungOf f B) / f.signWeight % 2 == 1) = true
        rw [this, Nat.mul_add_div (show 0 < f.signWeight from pw_pos _), Nat.div_eq_of_lt rB]; rfl
    · simp only [Bool.not_true, Bool.false_eq_true, if_false]
      constructor
      · unfold rungOf; rw [Nat.mod_mod]
      · show (rungOf f B / f.signWeight % 2 == 1) = false
        rw [Nat.div_eq_of_lt rB]; rfl
  by_cases c : rungOf f B < f.infRung
  · rw [read_num f _ (by rw [hr.1]; exact c), read_num f B c, hr.1, hr.2]; rfl
  · by_cases d : rungOf f B = f.infRung
    · rw [read_inf f _ hb (by rw [hr.1]; exact d), read_inf f B hb d, hr.2]; rfl
    · rw [read_nan f _ hb (by rw [hr.1]; omega), read_nan f B hb (by omega), hr.1, hr.2]; rfl
/-- A difference is the sum with the opposite. -/
theorem c_sub {p q f} (h : Pq p q f) (A B : Nat) (hA : A < 2 * f.signWeight) (hB : B < 2 * f.signWeight) (iA : rungOf f A ≤ f.infRung) (iB : rungOf f B ≤ f.infRung) (k : Nat) :
    ff_add.f (k + 4) p q A (Go.bits .xor .u64 (B : Int) (f.signWeight : Int)) = some (resP p (f.sub A B)) := by
  obtain ⟨w1, w2, w3, w4, w5, w6, w7, w8, w9, w10, w11, w12⟩ := c_w h
  have hw := word_rung f (!negOf f B) (rungOf f B) iB
  rw [xor_sign h B hB, c_add h A _ hA (by unfold Ieee.Format.word; split <;> omega) iA (by rw [hw.1]; exact iB) k]
  unfold Ieee.Format.add Ieee.Format.sub
  rw [read_opp h B hB]
theorem c_add' {p q f} (h : Pq p q f) (A B : Nat) (hA : A < 2 * f.signWeight) (hB : B < 2 * f.signWeight) (iA : rungOf f A ≤ f.infRung) (iB : rungOf f B ≤ f.infRung) (k : Nat) (hk : 4 ≤ k) :
    ff_add.f k p q A B = some (resP p (f.add A B)) := by
  obtain ⟨k, rfl⟩ : ∃ m, k = m + 4 := ⟨k - 4, by omega⟩
  exact c_add h A B hA hB iA iB k
theorem c_mul' {p q f} (h : Pq p q f) (A B : Nat) (hA : A < 2 * f.signWeight) (hB : B < 2 * f.signWeight) (iA : rungOf f A ≤ f.infRung) (iB : rungOf f B ≤ f.infRung) (k : Nat) (hk : 4 ≤ k) :
    ff_mul.f k p q A B = some (resP p (f.mul A B)) := by
  obtain ⟨k, rfl⟩ : ∃ m, k = m + 4 := ⟨k - 4, by omega⟩
  exact c_mul h A B hA hB iA iB k
theorem c_sub' {p q f} (h : Pq p q f) (A B : Nat) (hA : A < 2 * f.signWeight) (hB : B < 2 * f.signWeight) (iA : rungOf f A ≤ f.infRung) (iB : rungOf f B ≤ f.infRung) (k : Nat) (hk : 4 ≤ k) :
    ff_add.f k p q A (Go.bits .xor .u64 (B : Int) (f.signWeight : Int)) = some (resP p (f.sub A B)) := by
  obtain ⟨k, rfl⟩ : ∃ m, k = m + 4 := ⟨k - 4, by omega⟩
  exact c_sub h A B hA hB iA iB k
theorem Sz.neg_le {n p q f} (h : Sz n p q f) (A : Nat) (hA : A < 2 * f.signWeight) : negOf f A = true ↔ sgnI n ≤ (A : Int) := by
  rw [h.sg]
  have hs : 0 < f.signWeight := pw_pos _
  unfold negOf
  rw [beq_iff_eq]
  by_cases c : A < f.signWeight
  · rw [Nat.div_eq_of_lt c]; omega
  · have h1 : A / f.signWeight = 1 := (Nat.div_eq_iff hs).2 ⟨by omega, by omega⟩
    rw [h1]; omega
theorem c_Bin (n op : Int) (a b : Nat) (ha : a < 18446744073709551616) (hb : b < 18446744073709551616) (k : Nat) (hk : 40 ≤ k) : floats_Bin.f k n op a b = some (binF n op a b) := by
  obtain ⟨k, rfl⟩ : ∃ m, k = m + 3 := ⟨k - 3, by omega⟩
  have bad : floats_Bin.j0 (k + 3) op a b true 0 0 = some (0, 1) := by
    simp only [floats_Bin.j0]; rw [if_pos True.intro]
  by_cases hn : n = 32 ∨ n = 64
  · obtain ⟨p, q, f, S⟩ := sz n hn
    have hpq := S.pq
    obtain ⟨w1, w2, w3, w4, w5, w6, w7, w8, w9, w10, w11, w12⟩ := c_w hpq
    unfold floats_Bin.f
    rw [S.of]
    simp only [Option.bind_some]
    rw [S.none]
    simp only [Option.bind_some]
    rw [if_neg (by decide)]
    have bad : floats_Bin.j0 (k + 3) op a b true p q = some (0, 1) := by
      simp only [floats_Bin.j0]; rw [if_pos True.intro]
    by_cases o1 : op < 1
    · rw [if_pos o1, bad]
      unfold binF; rw [if_pos (by omega)]
    · rw [if_neg o1]
      by_cases o9 : op > 9
      · rw [decide_eq_true o9, bad]
        unfold binF; rw [if_pos (by omega)]
      · rw [decide_eq_false o9]
        have hr : ¬ ((n ≠ 32 ∧ n ≠ 64) ∨ op < 1 ∨ 9 < op) := by omega
        have hA := S.lt a ha; have hB := S.lt b hb
        have cA := S.cut a ha; have cB := S.cut b hb
        simp only [floats_Bin.j0]
        rw [if_neg (by simp), c_cut hpq a ha, c_cut hpq b hb, cA, cB]
        simp only [Option.bind_some]
        unfold binF
        rw [if_neg hr]
        simp only
        unfold ordOf
        rw [S.fm]
        have sgA := S.neg_le _ hA; have sgB := S.neg_le _ hB
        have sgI := S.sg
        have res := S.res
        generalize wOf n (a : Int) = A at *
        generalize wOf n (b : Int) = B at *
        have hA' : A < 18446744073709551616 := by omega
        have hB' : B < 18446744073709551616 := by omega
        rw [c_isNaN hpq A hA', c_isNaN hpq B hB']
        simp only [Option.bind_some]
        have bi := bin_ok hpq
        have j1 : floats_Bin.j1 (k + 2) op A B (nanW f A || nanW f B) p q = some (if op = 7 then ((A : Int) % sgnI n + B - B % sgnI n, 0) else
            if op = 8 then (if f.order B A = some .lt then (B : Int) else A, 0) else
            if op = 9 then (if f.order A B = some .lt then (B : Int) else A, 0) else
            if nanW f A || nanW f B then (canon n, 0) else
            if op = 5 ∨ op = 6 then (if rungOf f A = 0 ∧ rungOf f B = 0 then (if (op = 5 ↔ sgnI n ≤ (A : Int)) then (A : Int) else B) else if (f.order A B = some .lt ↔ op = 5) then (A : Int) else B, 0) else
            if op = 1 then (resOf n (f.add A B), 0) else if op = 2 then (resOf n (f.sub A B), 0) else if op = 3 then (resOf n (f.mul A B), 0) else (resOf n (f.div A B), 0)) := by
          simp only [floats_Bin.j1]
          by_cases o7 : op = 7
          · rw [if_pos o7, if_pos o7, c_neg hpq B hB', c_size hpq A hA']
            simp only [Option.bind_some]
            rw [c_signed hpq (negOf f B) (rungOf f A) (Nat.mod_lt _ (pw_pos _))]
            simp only [Option.bind_some]
            refine congrArg some (Prod.ext ?_ rfl)
            show ((f.word (negOf f B) (rungOf f A) : Nat) : Int) = (A : Int) % sgnI n + B - B % sgnI n
            rw [sgI]
            have eB := word_of f B hB
            have e1 : ((rungOf f A : Nat) : Int) = (A : Int) % (f.signWeight : Int) := by unfold rungOf; exact Int.natCast_emod ..
            have e2 : ((rungOf f B : Nat) : Int) = (B : Int) % (f.signWeight : Int) := by unfold rungOf; exact Int.natCast_emod ..
            rw [← e1, ← e2]
            unfold Ieee.Format.word at eB ⊢
            split at eB
            · rename_i hnb; rw [if_pos hnb]; omega
            · rename_i hnb; rw [if_neg hnb]; omega
          rw [if_neg o7, if_neg o7]
          have ltF : ∀ X Y : Nat, nanW f X = false → nanW f Y = false → (f.order X Y = some .lt ↔ lessF f X Y = true) := by
            intro X Y hX hY
            have h1 : ¬ f.infRung < rungOf f X := of_decide_eq_false hX
            have h2 : ¬ f.infRung < rungOf f Y := of_decide_eq_false hY
            rw [← lessF_order f X Y bi (by omega) (by omega), beq_iff_eq]
          have nanF : ∀ X Y : Nat, (nanW f X || nanW f Y) = true → f.order X Y = none := by
            intro X Y hXY
            rw [Bool.or_eq_true] at hXY
            exact order_nan f X Y bi (hXY.imp (fun x => of_decide_eq_true x) (fun x => of_decide_eq_true x))
          by_cases o8 : op = 8
          · rw [if_pos o8, if_pos o8]
            cases hN : (nanW f A || nanW f B)
            · rw [if_neg (by decide), c_less hpq B A hB' hA']
              simp only [Option.bind_some]
              rw [Bool.or_eq_false_iff] at hN
              by_cases c : lessF f B A = true
              · rw [if_pos c, if_pos ((ltF B A hN.2 hN.1).2 c)]
              · rw [if_neg c, if_neg (fun x => c ((ltF B A hN.2 hN.1).1 x))]
            · rw [if_pos rfl, nanF B A (by rw [Bool.or_comm]; exact hN), if_neg (by decide)]
          rw [if_neg o8, if_neg o8]
          by_cases o9 : op = 9
          · rw [if_pos o9, if_pos o9]
            cases hN : (nanW f A || nanW f B)
            · rw [if_neg (by decide), c_less hpq A B hA' hB']
              simp only [Option.bind_some]
              rw [Bool.or_eq_false_iff] at hN
              by_cases c : lessF f A B = true
              · rw [if_pos c, if_pos ((ltF A B hN.1 hN.2).2 c)]
              · rw [if_neg c, if_neg (fun x => c ((ltF A B hN.1 hN.2).1 x))]
            · rw [if_pos rfl, nanF A B hN, if_neg (by decide)]
          rw [if_neg o9, if_neg o9]
          cases hN : (nanW f A || nanW f B)
          · rw [if_neg (show ¬ (false = true) by decide), if_neg (show ¬ (false = true) by decide)]
            rw [Bool.or_eq_false_iff] at hN
            have iA : rungOf f A ≤ f.infRung := by have : ¬ f.infRung < rungOf f A := of_decide_eq_false hN.1; omega
            have iB : rungOf f B ≤ f.infRung := by have : ¬ f.infRung < rungOf f B := of_decide_eq_false hN.2; omega
            by_cases o56 : op = 5 ∨ op = 6
            · rw [if_pos o56, if_neg (by omega), if_neg (by omega), if_neg (by omega), if_neg (by omega), c_end hpq (op == 6) A B hA hB]
              simp only [Option.bind_some]
              refine congrArg some (Prod.ext ?_ rfl)
              have lt := ltF A B hN.1 hN.2
              rcases o56 with rfl | rfl
              · show (((if rungOf f A = 0 ∧ rungOf f B = 0 then (if false = negOf f A then B else A) else if lessF f A B = false then B else A : Nat)) : Int) = _
                by_cases z : rungOf f A = 0 ∧ rungOf f B = 0
                · rw [if_pos z, if_pos z]
                  cases hs : negOf f A
                  · rw [if_pos rfl, if_neg (fun x => by have := sgA.2 (x.1 rfl); rw [hs] at this; cases this)]
                  · rw [if_neg (by decide), if_pos ⟨fun _ => sgA.1 hs, fun _ => rfl⟩]
                · rw [if_neg z, if_neg z]
                  cases hs : lessF f A B
                  · rw [if_pos rfl, if_neg (fun x => by have := lt.1 (x.2 rfl); rw [hs] at this; cases this)]
                  · rw [if_neg (by decide), if_pos ⟨fun _ => rfl, fun _ => lt.2 hs⟩]
              · show (((if rungOf f A = 0 ∧ rungOf f B = 0 then (if true = negOf f A then B else A) else if lessF f A B = true then B else A : Nat)) : Int) = _
                by_cases z : rungOf f A = 0 ∧ rungOf f B = 0
                · rw [if_pos z, if_pos z]
                  cases hs : negOf f A
                  · rw [if_neg (by decide), if_pos ⟨fun x => absurd x (by decide), (fun x => by have := sgA.2 x; rw [hs] at this; cases this)⟩]
                  · rw [if_pos rfl, if_neg (fun x => absurd (x.2 (sgA.1 hs)) (by decide))]
                · rw [if_neg z, if_neg z]
                  cases hs : lessF f A B
                  · rw [if_neg (by decide), if_pos ⟨(fun x => by have := lt.1 x; rw [hs] at this; cases this), fun x => absurd x (by decide)⟩]
                  · rw [if_pos rfl, if_neg (fun x => absurd (x.1 (lt.2 hs)) (by decide))]
            · rw [if_neg o56]
              by_cases o2 : op = 2
              · rw [if_pos o2, if_neg (by omega), if_pos o2, c_sign hpq]
                simp only [Option.bind_some, floats_Bin.j2]
                rw [c_sub' hpq A B hA hB iA iB _ (by omega)]
                simp only [Option.bind_some]
                rw [res]
              · rw [if_neg o2]
                by_cases o1 : op = 1
                · rw [if_pos o1, if_pos o1]
                  simp only [floats_Bin.j2]
                  rw [c_add' hpq A B hA hB iA iB _ (by omega)]
                  simp only [Option.bind_some]
                  rw [res]
                · rw [if_neg o1, if_neg o1, if_neg o2]
                  by_cases o3 : op = 3
                  · rw [if_pos o3, if_pos o3]
                    rw [c_mul' hpq A B hA hB iA iB _ (by omega)]
                    simp only [Option.bind_some]
                    rw [res]
                  · rw [if_neg o3, if_neg o3, if_pos (by omega), c_div hpq A B hA hB iA iB (k + 1) (by omega)]
                    simp only [Option.bind_some]
                    rw [res]
          · rw [if_pos (show true = true from rfl), if_pos (show true = true from rfl), c_nanv hpq]
            simp only [Option.bind_some]
            rw [res]
            rfl
        cases hN : nanW f A
        · rw [if_neg (by decide)]
          rw [hN, Bool.false_or] at j1
          rw [Bool.false_or]
          exact j1
        · rw [if_pos rfl]
          rw [hN, Bool.true_or] at j1
          rw [Bool.true_or]
          exact j1
  · unfold floats_Bin.f
    rw [of_wrong n (by omega) (by omega)]
    simp only [Option.bind_some]
    rw [none_wrong]
    simp only [Option.bind_some]
    rw [if_pos True.intro, bad]
    unfold binF
    rw [if_pos (by omega)]
end Go.Proofs.Ytjfmomogidgbpaa.Pure
namespace Go.Proofs.Ytjfmomogidgbpaa.Pure
set_option linter.unusedVariables false
set_option linter.unusedSimpArgs false
open Go.RowKit Go.Proofs.Ytjfmomogidgbpaa.PFl Go.Proofs.Ytjfmomogidgbpaa.Fl Go.Proofs.YtjfmomogidgbpaaW.PrintWords
theorem ref_Bin (n op : Int) (a b : Nat) (ha : a < 18446744073709551616) (hb : b < 18446744073709551616) : br_Bin.f n op a b = some (binF n op a b) := by
  unfold br_Bin.f
  rw [if_pos (by omega)]
end Go.Proofs.Ytjfmomogidgbpaa.Pure
namespace Go.Proofs.Ytjfmomogidgbpaa.Pure
set_option linter.unusedVariables false
set_option linter.unusedSimpArgs false
open Go.RowKit Go.Proofs.Ytjfmomogidgbpaa.PFl Go.Proofs.Ytjfmomogidgbpaa.Fl Go.Proofs.YtjfmomogidgbpaaW.PrintWords
theorem Sz.same {n p q f} (h : Sz n p q f) (a : Nat) (ha : a < 18446744073709551616) : rungOf f a = rungOf f (wOf n (a : Int)) ∧ negOf f a = negOf f (wOf n (a : Int)) := by
  rw [← h.cut a ha]
  have hs : 0 < f.signWeight := pw_pos _
  have hd := Nat.div_add_mod a (2 * f.signWeight)
  have hm := Nat.mod_lt a (show 0 < 2 * f.signWeight by omega)
  generalize hq : a / (2 * f.signWeight) = x at *
  generalize hr : a % (2 * f.signWeight) = r at *
  have e : a = f.signWeight * (2 * x) + r := by rw [← hd]; have : 2 * f.signWeight * x = f.signWeight * (2 * x) := by ac_rfl
                                                omega
  constructor
  · unfold rungOf; rw [e, Nat.mul_add_mod]
  · unfold negOf
    rw [e, Nat.mul_add_div hs]
    have : (2 * x + r / f.signWeight) % 2 = r / f.signWeight % 2 := by omega
    rw [this]
theorem order_gt (f : Ieee.Format) (A B : Nat) (hi : f.binade ≤ f.infRung) (hA : rungOf f A ≤ f.infRung) (hB : rungOf f B ≤ f.infRung) :
    (f.order A B == some .gt) = lessF f B A ∧ (f.order A B == some .eq) = (!lessF f A B && !lessF f B A) ∧ (f.order A B == some .lt) = lessF f A B := by
  rw [← lessF_order f B A hi hB hA, ← lessF_order f A B hi hA hB, order_key f A B hi hA hB, order_key f B A hi hB hA]
  have cmp : ∀ a b : Int, compare a b = if a < b then .lt else if a = b then .eq else .gt := fun a b => rfl
  rw [cmp, cmp]
  generalize Fl.keyOf f A = x
  generalize Fl.keyOf f B = y
  by_cases l : x < y
  · rw [if_pos l, if_neg (by omega), if_neg (by omega)]; decide
  · rw [if_neg l]
    by_cases e : x = y
    · rw [if_pos e, if_neg (by omega), if_pos e.symm]; decide
    · rw [if_neg e, if_pos (by omega)]; decide
theorem lessF_same {n p q f} (S : Sz n p q f) (a b : Nat) (ha : a < 18446744073709551616) (hb : b < 18446744073709551616) : lessF f a b = lessF f (wOf n (a : Int)) (wOf n (b : Int)) := by
  unfold lessF
  rw [(S.same a ha).1, (S.same a ha).2, (S.same b hb).1, (S.same b hb).2]
theorem c_Rel (n op : Int) (a b : Nat) (ha : a < 18446744073709551616) (hb : b < 18446744073709551616) (k : Nat) (hk : 3 ≤ k) : floats_Rel.f k n op a b = some (relF n op a b) := by
  obtain ⟨k, rfl⟩ : ∃ m, k = m + 3 := ⟨k - 3, by omega⟩
  by_cases hn : n = 32 ∨ n = 64
  · obtain ⟨p, q, f, S⟩ := sz n hn
    have hpq := S.pq
    unfold floats_Rel.f
    rw [S.of]
    simp only [Option.bind_some]
    rw [S.none]
    simp only [Option.bind_some]
    rw [if_neg (by decide)]
    have bad : floats_Rel.j0 (k + 3) op a b true p q = some (false, 1) := by
      simp only [floats_Rel.j0]; rw [if_pos True.intro]
    by_cases o1 : op < 1
    · rw [if_pos o1, bad]
      unfold relF; rw [if_pos (by omega)]
    · rw [if_neg o1]
      by_cases o6 : op > 6
      · rw [decide_eq_true o6, bad]
        unfold relF; rw [if_pos (by omega)]
      · rw [decide_eq_false o6]
        simp only [floats_Rel.j0]
        rw [if_neg (by simp), c_isNaN hpq a ha, c_isNaN hpq b hb]
        simp only [Option.bind_some]
        have eN : nanW f a = nanW f (wOf n (a : Int)) := by unfold nanW; rw [(S.same a ha).1]
        have eM : nanW f b = nanW f (wOf n (b : Int)) := by unfold nanW; rw [(S.same b hb).1]
        have bi := bin_ok hpq
        have eR : relF n op a b = (if op = 1 then f.order (wOf n a) (wOf n b) == some .eq else if op = 2 then f.order (wOf n a) (wOf n b) != some .eq else if op = 3 then f.order (wOf n a) (wOf n b) == some .lt
            else if op = 4 then f.order (wOf n a) (wOf n b) == some .gt else if op = 5 then f.order (wOf n a) (wOf n b) == some .lt || f.order (wOf n a) (wOf n b) == some .eq
            else f.order (wOf n a) (wOf n b) == some .gt || f.order (wOf n a) (wOf n b) == some .eq, 0) := by
          unfold relF; rw [if_neg (by omega)]; unfold ordOf; rw [S.fm]
        rw [eR]
        have j1n : nanW f (wOf n (a : Int)) = true ∨ nanW f (wOf n (b : Int)) = true → floats_Rel.j1 (k + 2) op a b true p q = some (if op = 1 then f.order (wOf n a) (wOf n b) == some .eq else if op = 2 then f.order (wOf n a) (wOf n b) != some .eq else if op = 3 then f.order (wOf n a) (wOf n b) == some .lt
            else if op = 4 then f.order (wOf n a) (wOf n b) == some .gt else if op = 5 then f.order (wOf n a) (wOf n b) == some .lt || f.order (wOf n a) (wOf n b) == some .eq
            else f.order (wOf n a) (wOf n b) == some .gt || f.order (wOf n a) (wOf n b) == some .eq, 0) := by
          intro h
          rw [order_nan f _ _ bi (h.imp (fun x => of_decide_eq_true x) (fun x => of_decide_eq_true x))]
          simp only [floats_Rel.j1]
          rw [if_pos True.intro]
          have : op = 1 ∨ op = 2 ∨ op = 3 ∨ op = 4 ∨ op = 5 ∨ op = 6 := by omega
          rcases this with rfl | rfl | rfl | rfl | rfl | rfl <;> rfl
        rw [eN, eM]
        cases hN : nanW f (wOf n (a : Int))
        · rw [if_neg (by decide)]
          cases hM : nanW f (wOf n (b : Int))
          · have iA : rungOf f (wOf n (a : Int)) ≤ f.infRung := by have : ¬ f.infRung < rungOf f (wOf n (a : Int)) := of_decide_eq_false hN; omega
            have iB : rungOf f (wOf n (b : Int)) ≤ f.infRung := by have : ¬ f.infRung < rungOf f (wOf n (b : Int)) := of_decide_eq_false hM; omega
            obtain ⟨g1, g2, g3⟩ := order_gt f _ _ bi iA iB
            have g4 : (f.order (wOf n (a : Int)) (wOf n (b : Int)) != some .eq) = !(!lessF f (wOf n (a : Int)) (wOf n (b : Int)) && !lessF f (wOf n (b : Int)) (wOf n (a : Int))) := by
              rw [← g2]; rfl
            rw [g1, g2, g3, g4]
            simp only [floats_Rel.j1]
            rw [if_neg (by simp), c_less hpq a b ha hb, c_less hpq b a hb ha, lessF_same S a b ha hb, lessF_same S b a hb ha]
            simp only [Option.bind_some]
            have not2 : lessF f (wOf n (a : Int)) (wOf n (b : Int)) = true → lessF f (wOf n (b : Int)) (wOf n (a : Int)) = false := by
              unfold lessF
              intro h
              by_cases z : rungOf f (wOf n (a : Int)) = 0 ∧ rungOf f (wOf n (b : Int)) = 0
              · rw [if_pos z] at h; cases h
              · rw [if_neg z] at h
                rw [if_neg (fun x => z ⟨x.2, x.1⟩)]
                cases hs : negOf f (wOf n (a : Int)) <;> cases ht : negOf f (wOf n (b : Int)) <;> rw [hs, ht] at h <;> simp at h ⊢ <;> omega
            generalize lessF f (wOf n (a : Int)) (wOf n (b : Int)) = u at *
            generalize lessF f (wOf n (b : Int)) (wOf n (a : Int)) = v at *
            have : op = 1 ∨ op = 2 ∨ op = 3 ∨ op = 4 ∨ op = 5 ∨ op = 6 := by omega
            rcases this with rfl | rfl | rfl | rfl | rfl | rfl <;> cases u <;> cases v <;> first | rfl | (exact absurd (not2 rfl) (by decide))
          · exact j1n (.inr hM)
        · rw [if_pos rfl]
          exact j1n (.inl hN)
  · unfold floats_Rel.f
    rw [of_wrong n (by omega) (by omega)]
    simp only [Option.bind_some]
    rw [none_wrong]
    simp only [Option.bind_some]
    rw [if_pos True.intro]
    simp only [floats_Rel.j0]
    rw [if_pos True.intro]
    unfold relF
    rw [if_pos (by omega)]
end Go.Proofs.Ytjfmomogidgbpaa.Pure
namespace Go.Proofs.Ytjfmomogidgbpaa.Pure
set_option linter.unusedVariables false
set_option linter.unusedSimpArgs false
open Go.RowKit Go.Proofs.Ytjfmomogidgbpaa.PFl Go.Proofs.Ytjfmomogidgbpaa.Fl Go.Proofs.YtjfmomogidgbpaaW.PrintWords
/-- The radicand's first pairs of bits: so many. -/
def pre (M i : Nat) : Nat := if i ≤ 32 then M / 2 ^ (64 - 2 * i) else M * 2 ^ (2 * i - 64)
theorem pre_lo (M i : Nat) (h : i < 32) : pre M (i + 1) = 4 * pre M i + M / 2 ^ (62 - 2 * i) % 4 := by
  unfold pre
  rw [if_pos (by omega), if_pos (by omega)]
  have e1 : 64 - 2 * (i + 1) = 62 - 2 * i := by omega
  have e2 : 2 ^ (64 - 2 * i) = 2 ^ (62 - 2 * i) * 4 := by rw [show 64 - 2 * i = 62 - 2 * i + 2 from by omega, Nat.pow_add]
  rw [e1, e2, ← Nat.div_div_eq_div_mul]
  omega
theorem pre_hi (M i : Nat) (h : ¬ i < 32) : pre M (i + 1) = 4 * pre M i := by
  unfold pre
  have h4 : ∀ n : Nat, M * 2 ^ (n + 2) = 4 * (M * 2 ^ n) := fun n => by rw [Nat.pow_add, ← Nat.mul_assoc, Nat.mul_comm]
  by_cases c : i = 32
  · subst c
    rw [if_neg (by decide), if_pos (by decide)]
    show M * 2 ^ (0 + 2) = 4 * (M / 2 ^ 0)
    rw [h4]; simp
  · rw [if_neg (by omega), if_neg (by omega), show 2 * (i + 1) - 64 = 2 * i - 64 + 2 from by omega]
    exact h4 _
theorem rt_step (P r s d : Nat) (h : r * r + s = P) (hs : s ≤ 2 * r) (hd : d < 4) :
    (4 * r + 1 ≤ 4 * s + d → (2 * r + 1) * (2 * r + 1) + (4 * s + d - (4 * r + 1)) = 4 * P + d ∧ 4 * s + d - (4 * r + 1) ≤ 2 * (2 * r + 1)) ∧
    (¬ 4 * r + 1 ≤ 4 * s + d → 2 * r * (2 * r) + (4 * s + d) = 4 * P + d ∧ 4 * s + d ≤ 2 * (2 * r)) := by
  have e : 2 * r * (2 * r) = 4 * (r * r) := by rw [Nat.mul_mul_mul_comm]
  have e2 : (2 * r + 1) * (2 * r + 1) = 2 * r * (2 * r) + 4 * r + 1 := by
    simp only [Nat.mul_add, Nat.add_mul, Nat.mul_one, Nat.one_mul]; omega
  constructor
  · intro c; omega
  · intro c; omega
theorem wrapu (x : Nat) (h : x < 18446744073709551616) : IntKind.u64.wrap (x : Int) = (x : Int) := by rw [IntKind.wrap_u64]; omega
theorem or_small (x d : Nat) (hx : 4 * x < 18446744073709551616) (hd : d < 4) : Go.bits .or .u64 ((4 * x : Nat) : Int) (d : Int) = ((4 * x + d : Nat) : Int) := by
  rw [or_nat _ _ hx (by omega), Nat.mul_comm, show x * 4 = 2 ^ 2 * x from by omega, Nat.two_pow_add_eq_or_of_lt hd]
theorem sq_loop (p q : Int) (M : Nat) (hM : M < 18446744073709551616) (e : Int) (j : Nat) : ∀ d i r s : Nat, i + d = 62 → r * r + s = pre M i → s ≤ 2 * r → r < 2 ^ i →
    ∃ R S : Nat, R * R + S = M * 2 ^ 60 ∧ S ≤ 2 * R ∧ R < 2 ^ 62 ∧
      ff_sqrt.l0 (2 * d + 2 + j) M e r s i p q = (ff_round.f j p q false R (wrap64 (Int.tdiv (wrap64 (e - 60)) 2)) ((S : Int) != 0)).bind fun t => some t := by
  intro d
  induction d with
  | zero =>
    intro i r s hi h hs hr
    obtain rfl : i = 62 := by omega
    refine ⟨r, s, h.trans rfl, hs, hr, ?_⟩
    show ff_sqrt.l0 (2 * 0 + 2 + j) M e r s 62 p q = _
    rw [show 2 * 0 + 2 + j = (j + 1) + 1 from by omega]
    simp only [ff_sqrt.l0]
    rw [if_pos (by decide), if_neg (by decide)]
    simp only [ff_sqrt.j2]
    rw [if_pos True.intro]
  | succ d ih =>
    intro i r s hi h hs hr
    have hp : 2 ^ i ≤ 2 ^ 61 := Nat.pow_le_pow_right (by decide) (by omega)
    have hr' : r < 2305843009213693952 := Nat.lt_of_lt_of_le hr hp
    -- one step, with the pair of bits that is next
    have step : ∀ D : Nat, D < 4 → pre M (i + 1) = 4 * pre M i + D →
        ∃ R S : Nat, R * R + S = M * 2 ^ 60 ∧ S ≤ 2 * R ∧ R < 2 ^ 62 ∧
          ff_sqrt.j2 (2 * d + 2 + j + 1) M e r s i D i p q = (ff_round.f j p q false R (wrap64 (Int.tdiv (wrap64 (e - 60)) 2)) ((S : Int) != 0)).bind fun t => some t := by
      intro D hD hP
      obtain ⟨y, n⟩ := rt_step (pre M i) r s D h hs hD
      simp only [ff_sqrt.j2]
      rw [if_neg (by omega)]
      have c1 : IntKind.u64.wrap ((s : Int) * 4) = ((4 * s : Nat) : Int) := by rw [IntKind.wrap_u64]; omega
      have c2 : IntKind.u64.wrap ((r : Int) * 4) = ((4 * r : Nat) : Int) := by rw [IntKind.wrap_u64]; omega
      have c3 : IntKind.u64.wrap ((r : Int) * 2) = ((2 * r : Nat) : Int) := by rw [IntKind.wrap_u64]; omega
      have c4 : wrap64 ((i : Int) + 1) = ((i + 1 : Nat) : Int) := by unfold wrap64; omega
      rw [c1, c2, c3, c4, or_small s D (by omega) hD, or_one _ (by omega), or_one _ (by omega), show 4 * r / 2 * 2 + 1 = 4 * r + 1 from by omega, show 2 * r / 2 * 2 + 1 = 2 * r + 1 from by omega]
      have hp2 : 2 ^ (i + 1) = 2 * 2 ^ i := by rw [Nat.pow_succ, Nat.mul_comm]
      by_cases g : 4 * r + 1 ≤ 4 * s + D
      · rw [if_pos (by omega), show IntKind.u64.wrap (((4 * s + D : Nat) : Int) - ((4 * r + 1 : Nat) : Int)) = ((4 * s + D - (4 * r + 1) : Nat) : Int) from by rw [IntKind.wrap_u64]; omega]
        exact ih (i + 1) (2 * r + 1) _ (by omega) ((y g).1.trans hP.symm) (y g).2 (by omega)
      · rw [if_neg (by omega)]
        exact ih (i + 1) (2 * r) _ (by omega) ((n g).1.trans hP.symm) (n g).2 (by omega)
    rw [show 2 * (d + 1) + 2 + j = (2 * d + 2 + j + 1) + 1 from by omega]
    simp only [ff_sqrt.l0]
    rw [if_pos (by omega)]
    by_cases c : i < 32
    · rw [if_pos (by omega)]
      have c0 : IntKind.u64.wrap (wrap64 (62 - (wrap64 (2 * (i : Int))))) = ((62 - 2 * i : Nat) : Int) := by
        rw [show wrap64 (62 - (wrap64 (2 * (i : Int)))) = 62 - 2 * (i : Int) from by unfold wrap64; omega, IntKind.wrap_u64]; omega
      rw [c0, if_pos (by omega), shr_nat _ _ (by omega)]
      have := and_mask (M / 2 ^ (62 - 2 * i)) 2 (Nat.lt_of_le_of_lt (Nat.div_le_self _ _) hM) (by decide)
      rw [show ((2 ^ 2 : Nat) : Int) - 1 = 3 from rfl] at this
      rw [this]
      exact step _ (Nat.mod_lt _ (by decide)) (pre_lo M i c)
    · rw [if_neg (by omega)]
      exact step 0 (by decide) (pre_hi M i c)
theorem c_rt {p q f} (h : Pq p q f) (M : Nat) (h1 : 4611686018427387904 ≤ M) (hM : M < 18446744073709551616) (e : Int) (he : e % 2 = 0) (he2 : -5000 ≤ e ∧ e ≤ 5000) (k : Nat) (hk : 130 ≤ k) :
    ∃ R : Nat, IsRt (M * 2 ^ 60) R ∧ 2 ^ 61 ≤ R ∧ ff_sqrt.j0 k M e p q = some ((f.nearest false (rtS (M * 2 ^ 60) R) ((e - 60) / 2 - 1) : Nat) : Int) := by
  obtain ⟨j, rfl⟩ : ∃ j, k = (2 * 62 + 2 + j) + 1 := ⟨k - 127, by omega⟩
  obtain ⟨R, S, hR, hS, hR2, hl⟩ := sq_loop p q M hM e j 62 0 0 0 (by decide) (by unfold pre; rw [if_pos (by decide), Nat.div_eq_of_lt (by exact hM)]) (by decide) (by decide)
  have rt : IsRt (M * 2 ^ 60) R := by
    constructor
    · omega
    · have : (R + 1) * (R + 1) = R * R + 2 * R + 1 := by simp only [Nat.mul_add, Nat.add_mul, Nat.mul_one, Nat.one_mul]; omega
      omega
  have r1 : 2 ^ 61 ≤ R := by
    apply rt.ge
    rw [show (2 ^ 61 * 2 ^ 61 : Nat) = 4611686018427387904 * 2 ^ 60 from by decide]
    exact Nat.mul_le_mul_right _ h1
  refine ⟨R, rt, r1, ?_⟩
  simp only [ff_sqrt.j0]
  refine hl.trans ?_
  have ee : wrap64 (Int.tdiv (wrap64 (e - 60)) 2) = (e - 60) / 2 := by
    rw [show wrap64 (e - 60) = e - 60 from by unfold wrap64; omega]
    have : Int.tdiv (e - 60) 2 = (e - 60) / 2 := by
      rw [Int.tdiv_eq_ediv]; split <;> omega
    rw [this]; unfold wrap64; omega
  have r2 : (2 : Nat) ^ 61 = 2305843009213693952 := by decide
  have r3 : (2 : Nat) ^ 62 = 4611686018427387904 := by decide
  rw [ee, c_round' h false R (by omega) ((e - 60) / 2) ((S : Int) != 0) (fun _ => by omega) j (by omega)]
  simp only [Option.bind_some]
  have : 2 * R + ((S : Int) != 0).toNat = rtS (M * 2 ^ 60) R := by
    unfold rtS
    by_cases z : S = 0
    · subst z; rw [if_pos (by omega)]; rfl
    · rw [if_neg (by omega), bne_iff_ne.2 (show (S : Int) ≠ 0 by omega)]; rfl
  rw [this]
set_option maxRecDepth 100000 in
theorem odd_small : ∀ n : Fin 4096, Go.bits .and .i64 ((n.val : Int) - 2048) 1 = ((n.val : Int) - 2048) % 2 := by decide +kernel
theorem odd_int (x : Int) (h : -2048 ≤ x ∧ x < 2048) : Go.bits .and .i64 x 1 = x % 2 := by
  have := odd_small ⟨(x + 2048).toNat, by omega⟩
  rw [show ((⟨(x + 2048).toNat, by omega⟩ : Fin 4096).val : Int) - 2048 = x from by show ((x + 2048).toNat : Int) - 2048 = x; omega] at this
  exact this
end Go.Proofs.Ytjfmomogidgbpaa.Pure
namespace Go.Proofs.Ytjfmomogidgbpaa.Pure
set_option linter.unusedVariables false
set_option linter.unusedSimpArgs false
open Go.RowKit Go.Proofs.Ytjfmomogidgbpaa.PFl Go.Proofs.Ytjfmomogidgbpaa.Fl Go.Proofs.YtjfmomogidgbpaaW.PrintWords
theorem neg_lt (f : Ieee.Format) (A : Nat) (hA : A < 2 * f.signWeight) (h : negOf f A = false) : rungOf f A = A := by
  have := word_of f A hA
  rw [h] at this
  exact this
theorem c_sqrt {p q f} (h : Pq p q f) (A : Nat) (hA : A < 2 * f.signWeight) (iA : rungOf f A ≤ f.infRung) (k : Nat) (hk : 130 ≤ k) : ff_sqrt.f k p q A = some (resP p (f.sqrt A)) := by
  obtain ⟨w1, w2, w3, w4, w5, w6, w7, w8, w9, w10, w11, w12⟩ := c_w h
  have hb := bin_ok h
  have ip : 0 < f.infRung := Nat.lt_of_lt_of_le (pw_pos _) hb
  have hA' : A < 18446744073709551616 := by omega
  unfold ff_sqrt.f Ieee.Format.sqrt
  rw [c_size h A hA', c_neg h A hA', c_inf h, c_parts h A hA']
  simp only [Option.bind_some]
  by_cases z : rungOf f A = 0
  · rw [if_pos (by omega), read_num f A (by omega), (mag_zero f _).2 z]
    simp only [Ieee.Datum.root]
    rw [if_pos True.intro, Option.map_some]
    unfold Ieee.Format.write
    simp only
    rw [nearest_zero, show f.word (negOf f A) 0 = A from by have := word_of f A hA; rwa [z] at this]; rfl
  · rw [if_neg (by omega)]
    cases hn : negOf f A
    · rw [if_neg (by decide)]
      have eA := neg_lt f A hA hn
      by_cases i : rungOf f A = f.infRung
      · rw [if_pos (by omega), read_inf f A hb i, hn]
        simp only [Ieee.Datum.root]
        rw [if_neg (by decide), Option.map_some, ← hn, write_inf f A hA i]; rfl
      · rw [if_neg (by omega), read_num f A (by omega), hn]
        have hm0 : magOf f (rungOf f A) ≠ 0 := fun e => z ((mag_zero _ _).1 e)
        have hm2 := mag_lt f (rungOf f A)
        have hpl : plOf f (rungOf f A) ≤ 2046 := by
          have hd : rungOf f A / f.binade < 2 ^ f.exponentBits := by
            exact (Nat.div_lt_iff_lt_mul (show 0 < f.binade from pw_pos _)).2 (by omega)
          have : 2 ^ f.exponentBits ≤ 2 ^ 11 := Nat.pow_le_pow_right (by decide) w5
          unfold plOf; omega
        have hpl0 : 0 ≤ plOf f (rungOf f A) := Nat.zero_le _
        generalize magOf f (rungOf f A) = m at *
        generalize plOf f (rungOf f A) = t at *
        have hm' : m < 18446744073709551616 := by omega
        have lo := Nat.log2_self_le (n := m) hm0
        have hi := Nat.lt_log2_self (n := m)
        have hlog : m.log2 ≤ 52 := by
          have := (Nat.log2_lt (n := m) (k := 53) hm0).2 (by omega)
          omega
        rw [c_lz m hm' hm0]
        simp only [Option.bind_some]
        have e63 : 2 ^ m.log2 * 2 ^ (63 - m.log2) = 9223372036854775808 := by rw [← Nat.pow_add, show m.log2 + (63 - m.log2) = 63 from by omega]
        have b1 : 9223372036854775808 ≤ m * 2 ^ (63 - m.log2) := by rw [← e63]; exact Nat.mul_le_mul_right _ lo
        have b2 : m * 2 ^ (63 - m.log2) < 18446744073709551616 := by
          have : m * 2 ^ (63 - m.log2) < 2 ^ (m.log2 + 1) * 2 ^ (63 - m.log2) := Nat.mul_lt_mul_of_pos_right hi (pw_pos _)
          rw [Nat.pow_succ, Nat.mul_right_comm, e63] at this
          omega
        rw [wrapu _ (by omega), if_pos (by omega), shl_nat m _ b2 (by omega)]
        have ew : wrap64 (f.leastPlace + (t : Int) - ((63 - m.log2 : Nat) : Int)) = f.leastPlace + (t : Int) - ((63 - m.log2 : Nat) : Int) := by unfold wrap64; omega
        rw [ew, odd_int _ (by omega)]
        have fin : ∀ (u : Nat), m * 2 ^ u < 18446744073709551616 → 4611686018427387904 ≤ m * 2 ^ u → u ≤ 63 → (f.leastPlace + (t : Int) - (u : Int)) % 2 = 0 → ∀ k, 130 ≤ k →
            ff_sqrt.j0 k ((m * 2 ^ u : Nat) : Int) (f.leastPlace + (t : Int) - (u : Int)) p q = some (resP p (((Ieee.Datum.number false m (f.leastPlace + (t : Int))).root (f.fractionBits + 2)).map f.write)) := by
          intro u h1 h2 hu h3 k hk
          obtain ⟨R, rt, r1, hl⟩ := c_rt h (m * 2 ^ u) h2 h1 _ h3 (by omega) k hk
          rw [Nat.mul_assoc, ← Nat.pow_add] at rt hl
          rw [hl, root_prog f m (f.leastPlace + (t : Int)) (by omega) hm2 (u + 60) R (by omega) rt (Nat.le_trans (Nat.pow_le_pow_right (by decide) (by omega)) r1)]
          rw [show (f.leastPlace + (t : Int) - ((u + 60 : Nat) : Int)) / 2 - 1 = (f.leastPlace + (t : Int) - (u : Int) - 60) / 2 - 1 from by omega]
          rfl
        by_cases o : (f.leastPlace + (t : Int) - ((63 - m.log2 : Nat) : Int)) % 2 = 1
        · rw [if_pos o]
          have e2 : m * 2 ^ (63 - m.log2) = 2 * (m * 2 ^ (62 - m.log2)) := by
            rw [show 63 - m.log2 = 62 - m.log2 + 1 from by omega, Nat.pow_succ, ← Nat.mul_assoc, Nat.mul_comm]
          rw [e2] at b1 b2 ⊢
          have e3 : ((2 * (m * 2 ^ (62 - m.log2)) : Nat) : Int) / 2 = ((m * 2 ^ (62 - m.log2) : Nat) : Int) := by omega
          have e4 : wrap64 (f.leastPlace + (t : Int) - ((63 - m.log2 : Nat) : Int) + 1) = f.leastPlace + (t : Int) - ((62 - m.log2 : Nat) : Int) := by unfold wrap64; omega
          rw [e3, e4]
          exact fin (62 - m.log2) (by omega) (by omega) (by omega) (by omega) k hk
        · rw [if_neg o]
          exact fin (63 - m.log2) b2 (by omega) (by omega) (by omega) k hk
    · rw [if_pos rfl, c_nanv h]
      simp only [Option.bind_some]
      have : ((f.read A).root (f.fractionBits + 2)).map f.write = none := by
        by_cases i : rungOf f A = f.infRung
        · rw [read_inf f A hb i, hn]; simp only [Ieee.Datum.root]; rfl
        · rw [read_num f A (by omega), hn]
          simp only [Ieee.Datum.root]
          rw [if_neg (fun e => z ((mag_zero _ _).1 e)), if_pos True.intro]; rfl
      rw [this]
/-- A number that is whole stays as it is. -/
theorem cut_none (way : Ieee.Toward) (s : Bool) (n : Nat) : way.cut s n 0 = n := by
  rw [cut_all, Nat.pow_zero, Nat.div_one, Nat.mod_one]
  cases way <;> cases s <;> rfl
theorem cut_nought (way : Ieee.Toward) (s : Bool) (d : Nat) : way.cut s 0 d = 0 := by
  rw [cut_all, Nat.zero_div, Nat.zero_mod]
  have := pw_pos d
  cases way
  · show 0 + (decide (2 ^ d < 2 * 0) || (2 ^ d == 2 * 0 && 0 % 2 == 1)).toNat = 0
    rw [decide_eq_false (by omega), beq_eq_false_iff_ne.2 (show 2 ^ d ≠ 2 * 0 by omega)]; rfl
  all_goals cases s <;> rfl
theorem c_whole_stay {p q f} (h : Pq p q f) (A : Nat) (hA : A < 2 * f.signWeight) (hs : rungOf f A = f.infRung ∨ rungOf f A < f.infRung ∧ (0 ≤ f.leastPlace + (plOf f (rungOf f A) : Int) ∨ magOf f (rungOf f A) = 0)) (way : Ieee.Toward) :
    f.write ((f.read A).integral way) = A := by
  have hb := bin_ok h
  rcases hs with i | ⟨i, hs⟩
  · rw [read_inf f A hb i]
    exact write_inf f A hA i
  · rw [read_num f A i]
    simp only [Ieee.Datum.integral]
    unfold Ieee.Format.write
    simp only
    have nw := nearest_word f A hA hb i
    rcases hs with e | z
    · rw [show (-(f.leastPlace + ((plOf f (rungOf f A) : Nat) : Int))).toNat = 0 from by omega, cut_none, Nat.shiftLeft_eq, nearest_scale,
        show (0 : Int) + ((f.leastPlace + ((plOf f (rungOf f A) : Nat) : Int)).toNat : Int) = f.leastPlace + ((plOf f (rungOf f A) : Nat) : Int) from by omega]
      exact nw
    · rw [z, Nat.shiftLeft_eq, Nat.zero_mul, cut_nought, nearest_zero]
      rw [z, nearest_zero] at nw
      exact nw
/-- What the program's shift tells of a number that is cut. -/
theorem more_far (way : Ieee.Toward) (s : Bool) (m d : Nat) (hm : m < 9007199254740992) (hd : 63 ≤ d) : m / 2 ^ d = 0 ∧ m % 2 ^ d = m ∧ moreOf way s (2 ^ d) m 0 = moreOf way s (2 ^ 63) m 0 := by
  have h3 : 2 ^ 63 ≤ 2 ^ d := Nat.pow_le_pow_right (by decide) hd
  have h4 : (2 : Nat) ^ 63 = 9223372036854775808 := by decide
  refine ⟨Nat.div_eq_of_lt (by omega), Nat.mod_eq_of_lt (by omega), ?_⟩
  cases way
  · unfold moreOf
    rw [decide_eq_false (show ¬ 2 ^ d < 2 * m by omega), decide_eq_false (show ¬ 2 ^ 63 < 2 * m by omega), beq_eq_false_iff_ne.2 (show 2 ^ d ≠ 2 * m by omega), beq_eq_false_iff_ne.2 (show 2 ^ 63 ≠ 2 * m by omega)]
  all_goals rfl
theorem c_whole {p q f} (h : Pq p q f) (A : Nat) (hA : A < 2 * f.signWeight) (iA : rungOf f A ≤ f.infRung) (op : Int) (ho : 4 ≤ op ∧ op ≤ 7) (k : Nat) (hk : 6 ≤ k) :
    ff_whole.f k p q op A = some ((f.write ((f.read A).integral (wayOf op)) : Nat) : Int) := by
  obtain ⟨w1, w2, w3, w4, w5, w6, w7, w8, w9, w10, w11, w12⟩ := c_w h
  have hb := bin_ok h
  have hA' : A < 18446744073709551616 := by omega
  obtain ⟨k, rfl⟩ : ∃ j, k = j + 2 := ⟨k - 2, by omega⟩
  unfold ff_whole.f
  rw [c_parts h A hA', c_size h A hA', c_inf h]
  simp only [Option.bind_some]
  have stay : ∀ hs : rungOf f A = f.infRung ∨ rungOf f A < f.infRung ∧ (0 ≤ f.leastPlace + (plOf f (rungOf f A) : Int) ∨ magOf f (rungOf f A) = 0),
      ff_whole.j0 (k + 2) op A (magOf f (rungOf f A)) (f.leastPlace + (plOf f (rungOf f A) : Int)) true p q = some ((f.write ((f.read A).integral (wayOf op)) : Nat) : Int) := by
    intro hs
    rw [c_whole_stay h A hA hs]
    simp only [ff_whole.j0]
    rw [if_pos True.intro]
  by_cases i : rungOf f A = f.infRung
  · rw [if_pos (by omega)]; exact stay (.inl i)
  · rw [if_neg (by omega)]
    by_cases e : 0 ≤ f.leastPlace + (plOf f (rungOf f A) : Int)
    · rw [if_pos e]; exact stay (.inr ⟨by omega, .inl e⟩)
    · rw [if_neg e]
      by_cases z : magOf f (rungOf f A) = 0
      · rw [show ((magOf f (rungOf f A) : Int) == 0) = true from by rw [z]; rfl]; exact stay (.inr ⟨by omega, .inr z⟩)
      · rw [show ((magOf f (rungOf f A) : Int) == 0) = false from beq_eq_false_iff_ne.2 (by omega), read_num f A (by omega)]
        have hm2 := mag_lt f (rungOf f A)
        simp only [Ieee.Datum.integral]
        unfold Ieee.Format.write
        simp only
        rw [show (f.leastPlace + ((plOf f (rungOf f A) : Nat) : Int)).toNat = 0 from by omega, Nat.shiftLeft_eq, Nat.pow_zero, Nat.mul_one]
        have ht : -1074 ≤ f.leastPlace + (plOf f (rungOf f A) : Int) := by omega
        generalize magOf f (rungOf f A) = m at *
        generalize f.leastPlace + (plOf f (rungOf f A) : Int) = t at *
        -- the drop
        obtain ⟨d, hd, hd1, hd2⟩ : ∃ d : Nat, mn (wrap64 (-t)) 63 = (d : Int) ∧ 1 ≤ d ∧ d ≤ 63 ∧ (d : Int) = min (-t) 63 := by
          refine ⟨(min (-t) 63).toNat, ?_, by omega, by omega, by omega⟩
          have : wrap64 (-t) = -t := by unfold wrap64; omega
          rw [this]; unfold mn; omega
        obtain ⟨hd2, hd3⟩ := hd2
        have cut : ∀ way : Ieee.Toward, way.cut (negOf f A) m (-t).toNat = m / 2 ^ d + (moreOf way (negOf f A) (2 ^ d) (m % 2 ^ d) (m / 2 ^ d)).toNat := by
          intro way
          rw [cut_all]
          by_cases c : (-t).toNat = d
          · rw [c]
          · obtain rfl : d = 63 := by omega
            obtain ⟨g1, g2, g3⟩ := more_far way (negOf f A) m (-t).toNat (by omega) (by omega)
            obtain ⟨k1, k2, k3⟩ := more_far way (negOf f A) m 63 (by omega) (by omega)
            rw [g1, g2, k1, k2, g3]
        rw [cut]
        have pd := pw_pos d
        have pd2 : 2 ^ d = 2 * 2 ^ (d - 1) := by rw [← Nat.pow_succ', show (d - 1).succ = d from by omega]
        have pd3 : 2 ^ d ≤ 2 ^ 63 := Nat.pow_le_pow_right (by decide) hd2
        have pd4 : (2 : Nat) ^ 63 = 9223372036854775808 := by decide
        have hlow : m / 2 ^ d ≤ m := Nat.div_le_self _ _
        -- the last step: rounding a whole number does nothing but write it
        have last : ∀ C : Nat, C ≤ m + 1 → ∀ j, 2 ≤ j → ff_round.f j p q (negOf f A) C 0 false = some ((f.nearest (negOf f A) C 0 : Nat) : Int) := by
          intro C hC j hj
          rw [c_round' h (negOf f A) C (by omega) 0 false (fun x => by cases x) j hj]
          have := nearest_scale f (negOf f A) C 1 (-1)
          rw [show C * 2 ^ 1 = 2 * C from by omega] at this
          rw [show 2 * C + false.toNat = 2 * C from rfl, show (0 : Int) - 1 = -1 from rfl, this]; rfl
        have j1 : ∀ up : Bool, ff_whole.j1 (k + 1) A ((m / 2 ^ d : Nat) : Int) up p q = some ((f.nearest (negOf f A) (m / 2 ^ d + up.toNat) 0 : Nat) : Int) := by
          intro up
          simp only [ff_whole.j1]
          rw [c_neg h A hA']
          simp only [Option.bind_some]
          cases up
          · rw [if_neg (by decide), last _ (by omega) k (by omega)]; rfl
          · rw [if_pos rfl, show IntKind.u64.wrap (((m / 2 ^ d : Nat) : Int) + 1) = ((m / 2 ^ d + 1 : Nat) : Int) from wrapu (m / 2 ^ d + 1) (by omega), last _ (by omega) k (by omega)]; rfl
        simp only [ff_whole.j0]
        rw [if_neg (by decide), hd, wrapu d (by omega), if_pos (by omega), show wrap64 ((d : Int) - 1) = ((d - 1 : Nat) : Int) from by unfold wrap64; omega, wrapu (d - 1) (by omega), if_pos (by omega)]
        have es := shl_nat 1 d (by omega) (by omega)
        have es2 := shl_nat 1 (d - 1) (by omega) (by omega)
        rw [show ((1 : Nat) : Int) = 1 from rfl] at es es2
        rw [es, es2, Nat.one_mul, Nat.one_mul, shr_nat m d (by omega)]
        have em : Go.bits .and .u64 (m : Int) (IntKind.u64.wrap (((2 ^ d : Nat) : Int) - 1)) = ((m % 2 ^ d : Nat) : Int) := by
          rw [show IntKind.u64.wrap (((2 ^ d : Nat) : Int) - 1) = ((2 ^ d : Nat) : Int) - 1 from by rw [IntKind.wrap_u64]; omega]
          exact and_mask m d (by omega) (by omega)
        rw [em, c_neg h A hA']
        simp only [Option.bind_some]
        rw [j1, j1, j1, j1, j1]
        generalize hrest : m % 2 ^ d = rest
        generalize hw : m / 2 ^ d = W at *
        by_cases o4 : op = 4
        · subst o4
          rw [if_pos rfl]
          show _ = some ((f.nearest (negOf f A) (W + (!negOf f A && rest != 0).toNat) 0 : Nat) : Int)
          by_cases r0 : rest = 0
          · subst r0; rw [if_neg (by decide), bne_self_eq_false, Bool.and_false]
          · rw [if_pos (by omega), bne_iff_ne.2 r0, Bool.and_true]
        · rw [if_neg o4]
          by_cases o5 : op = 5
          · subst o5
            rw [if_pos rfl]
            show _ = some ((f.nearest (negOf f A) (W + (negOf f A && rest != 0).toNat) 0 : Nat) : Int)
            by_cases r0 : rest = 0
            · subst r0; rw [if_neg (by decide), bne_self_eq_false, Bool.and_false]
            · rw [if_pos (by omega), bne_iff_ne.2 r0, Bool.and_true]
          · rw [if_neg o5]
            by_cases o7 : op = 7
            · subst o7
              rw [if_pos rfl]
              show _ = some ((f.nearest (negOf f A) (W + (decide (2 ^ d < 2 * rest) || (2 ^ d == 2 * rest && W % 2 == 1)).toNat) 0 : Nat) : Int)
              by_cases g : 2 ^ (d - 1) < rest
              · rw [if_pos (by omega), decide_eq_true (by omega), Bool.true_or]
              · rw [if_neg (by omega), decide_eq_false (by omega), Bool.false_or]
                by_cases g2 : rest = 2 ^ (d - 1)
                · rw [if_pos (by omega), beq_iff_eq.2 (show 2 ^ d = 2 * rest by omega), Bool.true_and]
                  have ho := odd_bit W (by omega)
                  have : (Go.bits .and .u64 (W : Int) 1 == 1) = (W % 2 == 1) := by
                    rw [Bool.eq_iff_iff, beq_iff_eq, beq_iff_eq, ho]
                  rw [this]
                · rw [if_neg (by omega), beq_eq_false_iff_ne.2 (show 2 ^ d ≠ 2 * rest by omega), Bool.false_and]
            · rw [if_neg o7]
              obtain rfl : op = 6 := by omega
              rfl
theorem c_Un (n op : Int) (a : Nat) (ha : a < 18446744073709551616) (k : Nat) (hk : 140 ≤ k) : floats_Un.f k n op a = some (unF n op a) := by
  obtain ⟨k, rfl⟩ : ∃ m, k = m + 1 := ⟨k - 1, by omega⟩
  by_cases hn : n = 32 ∨ n = 64
  · obtain ⟨p, q, f, S⟩ := sz n hn
    have hpq := S.pq
    obtain ⟨w1, w2, w3, w4, w5, w6, w7, w8, w9, w10, w11, w12⟩ := c_w hpq
    unfold floats_Un.f
    rw [S.of]
    simp only [Option.bind_some]
    rw [S.none]
    simp only [Option.bind_some]
    rw [if_neg (by decide)]
    have bad : floats_Un.j0 (k + 1) op a true p q = some (0, 1) := by
      simp only [floats_Un.j0]; rw [if_pos True.intro]
    by_cases o1 : op < 1
    · rw [if_pos o1, bad]
      unfold unF; rw [if_pos (by omega)]
    · rw [if_neg o1]
      by_cases o7 : op > 7
      · rw [decide_eq_true o7, bad]
        unfold unF; rw [if_pos (by omega)]
      · rw [decide_eq_false o7]
        have hr : ¬ ((n ≠ 32 ∧ n ≠ 64) ∨ op < 1 ∨ 7 < op) := by omega
        have hA := S.lt a ha
        have cA := S.cut a ha
        simp only [floats_Un.j0]
        rw [if_neg (by simp), c_cut hpq a ha, cA]
        simp only [Option.bind_some]
        unfold unF
        rw [if_neg hr]
        simp only
        rw [S.fm, S.sg]
        have hneg := S.neg_le (wOf n (a : Int)) hA
        rw [S.sg] at hneg
        generalize wOf n (a : Int) = A at *
        have hA' : A < 18446744073709551616 := by omega
        by_cases p1 : op = 1
        · rw [if_pos p1, if_pos p1, c_size hpq A hA']; rfl
        · rw [if_neg p1, if_neg p1]
          by_cases p2 : op = 2
          · rw [if_pos p2, if_pos p2, c_sign hpq]
            simp only [Option.bind_some]
            rw [xor_sign hpq A hA]
            have hw := word_of f A hA
            have wt : ∀ r, f.word true r = f.signWeight + r := fun r => rfl
            have wf : ∀ r, f.word false r = r := fun r => rfl
            cases hs : negOf f A
            · rw [hs, wf] at hw
              rw [if_neg (fun x => by rw [hneg.2 x] at hs; cases hs), Bool.not_false, wt, hw]
              rw [Nat.add_comm]; rfl
            · rw [hs, wt] at hw
              rw [if_pos (hneg.1 hs), Bool.not_true, wf]
              rw [show (rungOf f A : Int) = (A : Int) - (f.signWeight : Int) from by omega]
          · rw [if_neg p2, if_neg p2, c_isNaN hpq A hA']
            simp only [Option.bind_some]
            cases hN : nanW f A
            · rw [if_neg Bool.false_ne_true, if_neg Bool.false_ne_true]
              have iA : rungOf f A ≤ f.infRung := by have : ¬ f.infRung < rungOf f A := of_decide_eq_false hN; omega
              by_cases p3 : op = 3
              · rw [if_pos p3, if_pos p3, c_sqrt hpq A hA iA k (by omega)]
                simp only [Option.bind_some]
                rw [S.res]
              · rw [if_neg p3, if_neg p3, c_whole hpq A hA iA op (by omega) k (by omega)]
                simp only [Option.bind_some]
            · rw [if_pos rfl, if_pos rfl, c_nanv hpq]
              simp only [Option.bind_some]
              rw [S.res none]; rfl
  · unfold floats_Un.f
    rw [of_wrong n (by omega) (by omega)]
    simp only [Option.bind_some]
    rw [none_wrong]
    simp only [Option.bind_some]
    rw [if_pos True.intro]
    simp only [floats_Un.j0]
    rw [if_pos True.intro]
    unfold unF
    rw [if_pos (by omega)]
end Go.Proofs.Ytjfmomogidgbpaa.Pure
namespace Go.Proofs.Ytjfmomogidgbpaa.Pure
set_option linter.unusedVariables false
set_option linter.unusedSimpArgs false
open Go.RowKit Go.Proofs.Ytjfmomogidgbpaa.PFl Go.Proofs.Ytjfmomogidgbpaa.PFm Go.Proofs.Ytjfmomogidgbpaa.Fl Go.Proofs.YtjfmomogidgbpaaW.PrintWords Go.Proofs.YtjfmomogidgbpaaW.PrintLast
theorem FloatsAll_ref (n op : Int) (a : Nat) (ha : a < 18446744073709551616) : br_Un.f n op a = some (unF n op a) := by
  unfold br_Un.f
  rw [if_pos (by omega)]
theorem FloatsAll_bin (a b : Nat) (ha : a < 18446744073709551616) (hb : b < 18446744073709551616) (n op : Int) (h : op ≤ 9) (h0 : 0 ≤ op) (k : Nat) (hk : 40 ≤ k) :
    bl_FloatsAll.l1 (k + 1) a b n op = bl_FloatsAll.l1 k a b n (op + 1) := by
  simp only [bl_FloatsAll.l1]
  rw [if_pos h, c_Bin n op a b ha hb k hk, ref_Bin n op a b ha hb]
  simp only [Option.bind_some]
  rw [if_pos True.intro, IntWalk.wrap64_in _ (by omega)]
theorem FloatsAll_un (a b : Nat) (ha : a < 18446744073709551616) (hb : b < 18446744073709551616) (n op : Int) (h : op ≤ 7) (h0 : 0 ≤ op) (k : Nat) (hk : 140 ≤ k) :
    bl_FloatsAll.l2 (k + 1) a b n op = bl_FloatsAll.l2 k a b n (op + 1) := by
  simp only [bl_FloatsAll.l2]
  rw [if_pos h, c_Un n op a ha k hk, FloatsAll_ref n op a ha]
  simp only [Option.bind_some]
  rw [if_pos True.intro, IntWalk.wrap64_in _ (by omega)]
theorem FloatsAll_rel (a b : Nat) (ha : a < 18446744073709551616) (hb : b < 18446744073709551616) (n op : Int) (h : op ≤ 6) (h0 : 0 ≤ op) (k : Nat) (hk : 3 ≤ k) :
    bl_FloatsAll.l3 (k + 1) a b n op = bl_FloatsAll.l3 k a b n (op + 1) := by
  simp only [bl_FloatsAll.l3]
  rw [if_pos h, c_Rel n op a b ha hb k hk, show br_Rel.f n op a b = some (relF n op a b) from rfl]
  simp only [Option.bind_some]
  rw [if_neg (by simp), IntWalk.wrap64_in _ (by omega)]
theorem FloatsAll_head (a b : Nat) (n : Int) (hn : n ≤ 64) (k : Nat) : bl_FloatsAll.l0 (k + 1) a b n = bl_FloatsAll.l1 k a b n 1 := by
  simp only [bl_FloatsAll.l0]
  rw [if_pos hn]
theorem FloatsAll_n1 (a b : Nat) (n : Int) (k : Nat) : bl_FloatsAll.l1 (k + 1) a b n 10 = bl_FloatsAll.l2 k a b n 1 := by
  simp only [bl_FloatsAll.l1]
  rw [if_neg (by decide)]
theorem FloatsAll_n2 (a b : Nat) (n : Int) (k : Nat) : bl_FloatsAll.l2 (k + 1) a b n 8 = bl_FloatsAll.l3 k a b n 1 := by
  simp only [bl_FloatsAll.l2]
  rw [if_neg (by decide)]
theorem FloatsAll_n3 (a b : Nat) (n : Int) (hn : 0 ≤ n ∧ n ≤ 64) (k : Nat) : bl_FloatsAll.l3 (k + 1) a b n 7 = bl_FloatsAll.l0 k a b (n + 32) := by
  simp only [bl_FloatsAll.l3]
  rw [if_neg (by decide), IntWalk.wrap64_in _ (by omega)]
theorem FloatsAll : bl_FloatsAll.Pure := by
  intro a0 a1 h0 h1
  have h0 := bounds_u64 h0
  have h1 := bounds_u64 h1
  obtain ⟨a, rfl⟩ := Int.eq_ofNat_of_zero_le h0.1
  obtain ⟨b, rfl⟩ := Int.eq_ofNat_of_zero_le h1.1
  have ha : a < 18446744073709551616 := by omega
  have hb : b < 18446744073709551616 := by omega
  refine ⟨300, ?_⟩
  unfold bl_FloatsAll.f
  rw [show bl_awake.f 300 = some true from rfl]
  simp only [Option.bind_some]
  rw [if_pos True.intro]
  show bl_FloatsAll.l0 (299 + 1) a b 32 = some true
  rw [FloatsAll_head a b 32 (by decide) 299]
  rw [show (299 : Nat) = 298 + 1 from rfl, FloatsAll_bin a b ha hb 32 1 (by decide) (by decide) 298 (by decide), show (1 : Int) + 1 = 2 from rfl]
  rw [show (298 : Nat) = 297 + 1 from rfl, FloatsAll_bin a b ha hb 32 2 (by decide) (by decide) 297 (by decide), show (2 : Int) + 1 = 3 from rfl]
  rw [show (297 : Nat) = 296 + 1 from rfl, FloatsAll_bin a b ha hb 32 3 (by decide) (by decide) 296 (by decide), show (3 : Int) + 1 = 4 from rfl]
  rw [show (296 : Nat) = 295 + 1 from rfl, FloatsAll_bin a b ha hb 32 4 (by decide) (by decide) 295 (by decide), show (4 : Int) + 1 = 5 from rfl]
  rw [show (295 : Nat) = 294 + 1 from rfl, FloatsAll_bin a b ha hb 32 5 (by decide) (by decide) 294 (by decide), show (5 : Int) + 1 = 6 from rfl]
  rw [show (294 : Nat) = 293 + 1 from rfl, FloatsAll_bin a b ha hb 32 6 (by decide) (by decide) 293 (by decide), show (6 : Int) + 1 = 7 from rfl]
  rw [show (293 : Nat) = 292 + 1 from rfl, FloatsAll_bin a b ha hb 32 7 (by decide) (by decide) 292 (by decide), show (7 : Int) + 1 = 8 from rfl]
  rw [show (292 : Nat) = 291 + 1 from rfl, FloatsAll_bin a b ha hb 32 8 (by decide) (by decide) 291 (by decide), show (8 : Int) + 1 = 9 from rfl]
  rw [show (291 : Nat) = 290 + 1 from rfl, FloatsAll_bin a b ha hb 32 9 (by decide) (by decide) 290 (by decide), show (9 : Int) + 1 = 10 from rfl]
  rw [show (290 : Nat) = 289 + 1 from rfl, FloatsAll_n1 a b 32 289]
  rw [show (289 : Nat) = 288 + 1 from rfl, FloatsAll_un a b ha hb 32 1 (by decide) (by decide) 288 (by decide), show (1 : Int) + 1 = 2 from rfl]
  rw [show (288 : Nat) = 287 + 1 from rfl, FloatsAll_un a b ha hb 32 2 (by decide) (by decide) 287 (by decide), show (2 : Int) + 1 = 3 from rfl]
  rw [show (287 : Nat) = 286 + 1 from rfl, FloatsAll_un a b ha hb 32 3 (by decide) (by decide) 286 (by decide), show (3 : Int) + 1 = 4 from rfl]
  rw [show (286 : Nat) = 285 + 1 from rfl, FloatsAll_un a b ha hb 32 4 (by decide) (by decide) 285 (by decide), show (4 : Int) + 1 = 5 from rfl]
  rw [show (285 : Nat) = 284 + 1 from rfl, FloatsAll_un a b ha hb 32 5 (by decide) (by decide) 284 (by decide), show (5 : Int) + 1 = 6 from rfl]
  rw [show (284 : Nat) = 283 + 1 from rfl, FloatsAll_un a b ha hb 32 6 (by decide) (by decide) 283 (by decide), show (6 : Int) + 1 = 7 from rfl]
  rw [show (283 : Nat) = 282 + 1 from rfl, FloatsAll_un a b ha hb 32 7 (by decide) (by decide) 282 (by decide), show (7 : Int) + 1 = 8 from rfl]
  rw [show (282 : Nat) = 281 + 1 from rfl, FloatsAll_n2 a b 32 281]
  rw [show (281 : Nat) = 280 + 1 from rfl, FloatsAll_rel a b ha hb 32 1 (by decide) (by decide) 280 (by decide), show (1 : Int) + 1 = 2 from rfl]
  rw [show (280 : Nat) = 279 + 1 from rfl, FloatsAll_rel a b ha hb 32 2 (by decide) (by decide) 279 (by decide), show (2 : Int) + 1 = 3 from rfl]
  rw [show (279 : Nat) = 278 + 1 from rfl, FloatsAll_rel a b ha hb 32 3 (by decide) (by decide) 278 (by decide), show (3 : Int) + 1 = 4 from rfl]
  rw [show (278 : Nat) = 277 + 1 from rfl, FloatsAll_rel a b ha hb 32 4 (by decide) (by decide) 277 (by decide), show (4 : Int) + 1 = 5 from rfl]
  rw [show (277 : Nat) = 276 + 1 from rfl, FloatsAll_rel a b ha hb 32 5 (by decide) (by decide) 276 (by decide), show (5 : Int) + 1 = 6 from rfl]
  rw [show (276 : Nat) = 275 + 1 from rfl, FloatsAll_rel a b ha hb 32 6 (by decide) (by decide) 275 (by decide), show (6 : Int) + 1 = 7 from rfl]
  rw [show (275 : Nat) = 274 + 1 from rfl, FloatsAll_n3 a b 32 (by decide) 274, show (32 : Int) + 32 = 64 from rfl]
  rw [show (274 : Nat) = 273 + 1 from rfl]
  rw [FloatsAll_head a b 64 (by decide) 273]
  rw [show (273 : Nat) = 272 + 1 from rfl, FloatsAll_bin a b ha hb 64 1 (by decide) (by decide) 272 (by decide), show (1 : Int) + 1 = 2 from rfl]
  rw [show (272 : Nat) = 271 + 1 from rfl, FloatsAll_bin a b ha hb 64 2 (by decide) (by decide) 271 (by decide), show (2 : Int) + 1 = 3 from rfl]
  rw [show (271 : Nat) = 270 + 1 from rfl, FloatsAll_bin a b ha hb 64 3 (by decide) (by decide) 270 (by decide), show (3 : Int) + 1 = 4 from rfl]
  rw [show (270 : Nat) = 269 + 1 from rfl, FloatsAll_bin a b ha hb 64 4 (by decide) (by decide) 269 (by decide), show (4 : Int) + 1 = 5 from rfl]
  rw [show (269 : Nat) = 268 + 1 from rfl, FloatsAll_bin a b ha hb 64 5 (by decide) (by decide) 268 (by decide), show (5 : Int) + 1 = 6 from rfl]
  rw [show (268 : Nat) = 267 + 1 from rfl, FloatsAll_bin a b ha hb 64 6 (by decide) (by decide) 267 (by decide), show (6 : Int) + 1 = 7 from rfl]
  rw [show (267 : Nat) = 266 + 1 from rfl, FloatsAll_bin a b ha hb 64 7 (by decide) (by decide) 266 (by decide), show (7 : Int) + 1 = 8 from rfl]
  rw [show (266 : Nat) = 265 + 1 from rfl, FloatsAll_bin a b ha hb 64 8 (by decide) (by decide) 265 (by decide), show (8 : Int) + 1 = 9 from rfl]
  rw [show (265 : Nat) = 264 + 1 from rfl, FloatsAll_bin a b ha hb 64 9 (by decide) (by decide) 264 (by decide), show (9 : Int) + 1 = 10 from rfl]
  rw [show (264 : Nat) = 263 + 1 from rfl, FloatsAll_n1 a b 64 263]
  rw [show (263 : Nat) = 262 + 1 from rfl, FloatsAll_un a b ha hb 64 1 (by decide) (by decide) 262 (by decide), show (1 : Int) + 1 = 2 from rfl]
  rw [show (262 : Nat) = 261 + 1 from rfl, FloatsAll_un a b ha hb 64 2 (by decide) (by decide) 261 (by decide), show (2 : Int) + 1 = 3 from rfl]
  rw [show (261 : Nat) = 260 + 1 from rfl, FloatsAll_un a b ha hb 64 3 (by decide) (by decide) 260 (by decide), show (3 : Int) + 1 = 4 from rfl]
  rw [show (260 : Nat) = 259 + 1 from rfl, FloatsAll_un a b ha hb 64 4 (by decide) (by decide) 259 (by decide), show (4 : Int) + 1 = 5 from rfl]
  rw [show (259 : Nat) = 258 + 1 from rfl, FloatsAll_un a b ha hb 64 5 (by decide) (by decide) 258 (by decide), show (5 : Int) + 1 = 6 from rfl]
  rw [show (258 : Nat) = 257 + 1 from rfl, FloatsAll_un a b ha hb 64 6 (by decide) (by decide) 257 (by decide), show (6 : Int) + 1 = 7 from rfl]
  rw [show (257 : Nat) = 256 + 1 from rfl, FloatsAll_un a b ha hb 64 7 (by decide) (by decide) 256 (by decide), show (7 : Int) + 1 = 8 from rfl]
  rw [show (256 : Nat) = 255 + 1 from rfl, FloatsAll_n2 a b 64 255]
  rw [show (255 : Nat) = 254 + 1 from rfl, FloatsAll_rel a b ha hb 64 1 (by decide) (by decide) 254 (by decide), show (1 : Int) + 1 = 2 from rfl]
  rw [show (254 : Nat) = 253 + 1 from rfl, FloatsAll_rel a b ha hb 64 2 (by decide) (by decide) 253 (by decide), show (2 : Int) + 1 = 3 from rfl]
  rw [show (253 : Nat) = 252 + 1 from rfl, FloatsAll_rel a b ha hb 64 3 (by decide) (by decide) 252 (by decide), show (3 : Int) + 1 = 4 from rfl]
  rw [show (252 : Nat) = 251 + 1 from rfl, FloatsAll_rel a b ha hb 64 4 (by decide) (by decide) 251 (by decide), show (4 : Int) + 1 = 5 from rfl]
  rw [show (251 : Nat) = 250 + 1 from rfl, FloatsAll_rel a b ha hb 64 5 (by decide) (by decide) 250 (by decide), show (5 : Int) + 1 = 6 from rfl]
  rw [show (250 : Nat) = 249 + 1 from rfl, FloatsAll_rel a b ha hb 64 6 (by decide) (by decide) 249 (by decide), show (6 : Int) + 1 = 7 from rfl]
  rw [show (249 : Nat) = 248 + 1 from rfl, FloatsAll_n3 a b 64 (by decide) 248, show (64 : Int) + 32 = 96 from rfl]
  rw [show (248 : Nat) = 247 + 1 from rfl]
  simp only [bl_FloatsAll.l0]
  rw [if_neg (by decide)]
end Go.Proofs.Ytjfmomogidgbpaa.Pure
