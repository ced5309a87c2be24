/-
  The walk of the reference's Trunc, of a number that is no NaN. Printed by genCl.py.
-/
import Derived.Test.YtonofklhapfdpaaCk
namespace Go.Proofs.Ytonofklhapfdpaa.Pure
set_option linter.unusedVariables false
set_option linter.unusedSimpArgs false
open Go.RowKit Go.Proofs.Ytonofklhapfdpaa.PConv Go.Proofs.Ytonofklhapfdpaa.Fl Go.Proofs.Ytonofklhapfdpaa.Ref Go.Proofs.YtonofklhapfdpaaW.PrintWords Go.Proofs.YtonofklhapfdpaaW.PrintLast
theorem n63 (w : World) : (Op.unary .neg (.float .f64 4890909195324358656)).run Try.prog w = .ok (.float .f64 14114281232179134464) w := by
  simp [Op.unary]; decide +kernel
theorem n31 (w : World) : (Op.unary .neg (.float .f64 4746794007248502784)).run Try.prog w = .ok (.float .f64 13970166044103278592) w := by
  simp [Op.unary]; decide +kernel
def FQ (v : Nat) (w : World) (e : Ending) (w' : World) : Prop := ∃ k, e = .returned (.float .f64 v) ∧ w' = w.drewN k
theorem over_32_0 (fr : Int) (hf : Rt fr) (b β γ : Bool) (hbg : β = true ∨ γ = true) (a x v : Nat) (HX : ∀ w, Calls Try.prog 42 #[.int .i64 fr, .int .u64 (a : Int)] w (FQ x w)) (HM : ∀ w, Calls Try.prog 43 #[.float .f64 x] w (FQ v w))
    (N : (FloatKind.f64.format.order x x != some Ordering.eq) = false) (hb : (FloatKind.f64.format.order v 0 == some Ordering.lt) = β) (hg : (FloatKind.f64.format.order v 4751297606875873280 == some Ordering.gt || FloatKind.f64.format.order v 4751297606875873280 == some Ordering.eq) = γ) (w : World) :
    Calls Try.prog 20 #[.int .i64 fr, .int .i64 32, .bool false, .bool b, .int .u64 (a : Int)] w (TrQ ((if b = true then (if β = true then 0 else 4294967295, 0) else (0, 42)) : Int × Int) w) := by
  have hm1 := m64; have hm2 := m32; have hn1 := n63; have hn2 := n31
  have HC := cut32
  have hc0 := fun w => HC 18446744073709551615 w
  rcases hbg with rfl | rfl <;> rcases hf with rfl | rfl <;> cases b <;> (try cases β)
  all_goals
    go_enter Try.func20, Try.ntmps20
    go_wp2_with (first | (go_at_call 42; refine (HX _).mono ?_; rintro e w1 ⟨k, rfl, rfl⟩) | (go_at_call 43; refine (HM _).mono ?_; rintro e w1 ⟨k, rfl, rfl⟩) | (go_at_call 36; refine (hc0 _).mono ?_; rintro e w1 ⟨rfl, rfl⟩))
    go_ret2
    exact ⟨rfl, drawn_n rfl⟩
theorem mid_32_0 (fr : Int) (hf : Rt fr) (b : Bool) (a x v : Nat) (HX : ∀ w, Calls Try.prog 42 #[.int .i64 fr, .int .u64 (a : Int)] w (FQ x w)) (HM : ∀ w, Calls Try.prog 43 #[.float .f64 x] w (FQ v w))
    (N : (FloatKind.f64.format.order x x != some Ordering.eq) = false) (hb : (FloatKind.f64.format.order v 0 == some Ordering.lt) = false) (hg : (FloatKind.f64.format.order v 4751297606875873280 == some Ordering.gt || FloatKind.f64.format.order v 4751297606875873280 == some Ordering.eq) = false)
    (h6 : (FloatKind.f64.format.order v 4890909195324358656 == some Ordering.gt || FloatKind.f64.format.order v 4890909195324358656 == some Ordering.eq) = false) (z : Int) (Z : Nat) (hZ : IntKind.u64.wrap z = (Z : Int)) (hc : ∀ w, (convert 51 2 (.float .f64 v)).run Try.prog w = .ok (.int .i64 z) w) (w : World) :
    Calls Try.prog 20 #[.int .i64 fr, .int .i64 32, .bool false, .bool b, .int .u64 (a : Int)] w (TrQ ((Z : Int), 0) w) := by
  have hm1 := m64; have hm2 := m32; have hn1 := n63; have hn2 := n31
  rcases hf with rfl | rfl <;> cases b
  all_goals
    go_enter Try.func20, Try.ntmps20
    go_wp2_with (first | (go_at_call 42; refine (HX _).mono ?_; rintro e w1 ⟨k, rfl, rfl⟩) | (go_at_call 43; refine (HM _).mono ?_; rintro e w1 ⟨k, rfl, rfl⟩))
    go_ret2
    exact ⟨rfl, drawn_n rfl⟩
theorem over_32_1 (fr : Int) (hf : Rt fr) (b β γ : Bool) (hbg : β = true ∨ γ = true) (a x v : Nat) (HX : ∀ w, Calls Try.prog 42 #[.int .i64 fr, .int .u64 (a : Int)] w (FQ x w)) (HM : ∀ w, Calls Try.prog 43 #[.float .f64 x] w (FQ v w))
    (N : (FloatKind.f64.format.order x x != some Ordering.eq) = false) (hb : (FloatKind.f64.format.order v 13970166044103278592 == some Ordering.lt) = β) (hg : (FloatKind.f64.format.order v 4746794007248502784 == some Ordering.gt || FloatKind.f64.format.order v 4746794007248502784 == some Ordering.eq) = γ) (w : World) :
    Calls Try.prog 20 #[.int .i64 fr, .int .i64 32, .bool true, .bool b, .int .u64 (a : Int)] w (TrQ ((if b = true then (if β = true then 2147483648 else 2147483647, 0) else (0, 42)) : Int × Int) w) := by
  have hm1 := m64; have hm2 := m32; have hn1 := n63; have hn2 := n31
  have HC := cut32
  have hc0 := fun w => HC 18446744073709551615 w
  rcases hbg with rfl | rfl <;> rcases hf with rfl | rfl <;> cases b <;> (try cases β)
  all_goals
    go_enter Try.func20, Try.ntmps20
    go_wp2_with (first | (go_at_call 42; refine (HX _).mono ?_; rintro e w1 ⟨k, rfl, rfl⟩) | (go_at_call 43; refine (HM _).mono ?_; rintro e w1 ⟨k, rfl, rfl⟩) | (go_at_call 36; refine (hc0 _).mono ?_; rintro e w1 ⟨rfl, rfl⟩))
    go_ret2
    exact ⟨rfl, drawn_n rfl⟩
theorem neg_32_1 (fr : Int) (hf : Rt fr) (b : Bool) (a x v : Nat) (HX : ∀ w, Calls Try.prog 42 #[.int .i64 fr, .int .u64 (a : Int)] w (FQ x w)) (HM : ∀ w, Calls Try.prog 43 #[.float .f64 x] w (FQ v w))
    (N : (FloatKind.f64.format.order x x != some Ordering.eq) = false) (hb : (FloatKind.f64.format.order v 13970166044103278592 == some Ordering.lt) = false) (hg : (FloatKind.f64.format.order v 4746794007248502784 == some Ordering.gt || FloatKind.f64.format.order v 4746794007248502784 == some Ordering.eq) = false)
    (hz : (FloatKind.f64.format.order v 0 == some Ordering.lt) = true) (z : Int) (Z : Nat) (hZ : IntKind.u64.wrap z = (Z : Int)) (hc : ∀ w, (convert 51 2 (.float .f64 v)).run Try.prog w = .ok (.int .i64 z) w) (r : Nat) (HC : ∀ w, Calls Try.prog 36 #[.int .i64 32, .int .u64 (Z : Int)] w fun e w' => e = .returned (.int .u64 (r : Int)) ∧ w = w') (w : World) :
    Calls Try.prog 20 #[.int .i64 fr, .int .i64 32, .bool true, .bool b, .int .u64 (a : Int)] w (TrQ ((r : Int), 0) w) := by
  have hm1 := m64; have hm2 := m32; have hn1 := n63; have hn2 := n31
  rcases hf with rfl | rfl <;> cases b
  all_goals
    go_enter Try.func20, Try.ntmps20
    go_wp2_with (first | (go_at_call 42; refine (HX _).mono ?_; rintro e w1 ⟨k, rfl, rfl⟩) | (go_at_call 43; refine (HM _).mono ?_; rintro e w1 ⟨k, rfl, rfl⟩) | (go_at_call 36; refine (HC _).mono ?_; rintro e w1 ⟨rfl, rfl⟩))
    go_ret2
    exact ⟨rfl, drawn_n rfl⟩
theorem mid_32_1 (fr : Int) (hf : Rt fr) (b : Bool) (a x v : Nat) (HX : ∀ w, Calls Try.prog 42 #[.int .i64 fr, .int .u64 (a : Int)] w (FQ x w)) (HM : ∀ w, Calls Try.prog 43 #[.float .f64 x] w (FQ v w))
    (N : (FloatKind.f64.format.order x x != some Ordering.eq) = false) (hb : (FloatKind.f64.format.order v 13970166044103278592 == some Ordering.lt) = false) (hg : (FloatKind.f64.format.order v 4746794007248502784 == some Ordering.gt || FloatKind.f64.format.order v 4746794007248502784 == some Ordering.eq) = false)
    (hz : (FloatKind.f64.format.order v 0 == some Ordering.lt) = false) (h6 : (FloatKind.f64.format.order v 4890909195324358656 == some Ordering.gt || FloatKind.f64.format.order v 4890909195324358656 == some Ordering.eq) = false) (z : Int) (Z : Nat) (hZ : IntKind.u64.wrap z = (Z : Int)) (hc : ∀ w, (convert 51 2 (.float .f64 v)).run Try.prog w = .ok (.int .i64 z) w) (w : World) :
    Calls Try.prog 20 #[.int .i64 fr, .int .i64 32, .bool true, .bool b, .int .u64 (a : Int)] w (TrQ ((Z : Int), 0) w) := by
  have hm1 := m64; have hm2 := m32; have hn1 := n63; have hn2 := n31
  rcases hf with rfl | rfl <;> cases b
  all_goals
    go_enter Try.func20, Try.ntmps20
    go_wp2_with (first | (go_at_call 42; refine (HX _).mono ?_; rintro e w1 ⟨k, rfl, rfl⟩) | (go_at_call 43; refine (HM _).mono ?_; rintro e w1 ⟨k, rfl, rfl⟩))
    go_ret2
    exact ⟨rfl, drawn_n rfl⟩
theorem over_64_0 (fr : Int) (hf : Rt fr) (b β γ : Bool) (hbg : β = true ∨ γ = true) (a x v : Nat) (HX : ∀ w, Calls Try.prog 42 #[.int .i64 fr, .int .u64 (a : Int)] w (FQ x w)) (HM : ∀ w, Calls Try.prog 43 #[.float .f64 x] w (FQ v w))
    (N : (FloatKind.f64.format.order x x != some Ordering.eq) = false) (hb : (FloatKind.f64.format.order v 0 == some Ordering.lt) = β) (hg : (FloatKind.f64.format.order v 4895412794951729152 == some Ordering.gt || FloatKind.f64.format.order v 4895412794951729152 == some Ordering.eq) = γ) (w : World) :
    Calls Try.prog 20 #[.int .i64 fr, .int .i64 64, .bool false, .bool b, .int .u64 (a : Int)] w (TrQ ((if b = true then (if β = true then 0 else 18446744073709551615, 0) else (0, 42)) : Int × Int) w) := by
  have hm1 := m64; have hm2 := m32; have hn1 := n63; have hn2 := n31
  have HC := cut64
  have hc0 := fun w => HC 18446744073709551615 w
  rcases hbg with rfl | rfl <;> rcases hf with rfl | rfl <;> cases b <;> (try cases β)
  all_goals
    go_enter Try.func20, Try.ntmps20
    go_wp2_with (first | (go_at_call 42; refine (HX _).mono ?_; rintro e w1 ⟨k, rfl, rfl⟩) | (go_at_call 43; refine (HM _).mono ?_; rintro e w1 ⟨k, rfl, rfl⟩) | (go_at_call 36; refine (hc0 _).mono ?_; rintro e w1 ⟨rfl, rfl⟩))
    go_ret2
    exact ⟨rfl, drawn_n rfl⟩
theorem mid_64_0 (fr : Int) (hf : Rt fr) (b : Bool) (a x v : Nat) (HX : ∀ w, Calls Try.prog 42 #[.int .i64 fr, .int .u64 (a : Int)] w (FQ x w)) (HM : ∀ w, Calls Try.prog 43 #[.float .f64 x] w (FQ v w))
    (N : (FloatKind.f64.format.order x x != some Ordering.eq) = false) (hb : (FloatKind.f64.format.order v 0 == some Ordering.lt) = false) (hg : (FloatKind.f64.format.order v 4895412794951729152 == some Ordering.gt || FloatKind.f64.format.order v 4895412794951729152 == some Ordering.eq) = false)
    (h6 : (FloatKind.f64.format.order v 4890909195324358656 == some Ordering.gt || FloatKind.f64.format.order v 4890909195324358656 == some Ordering.eq) = false) (z : Int) (Z : Nat) (hZ : IntKind.u64.wrap z = (Z : Int)) (hc : ∀ w, (convert 51 2 (.float .f64 v)).run Try.prog w = .ok (.int .i64 z) w) (w : World) :
    Calls Try.prog 20 #[.int .i64 fr, .int .i64 64, .bool false, .bool b, .int .u64 (a : Int)] w (TrQ ((Z : Int), 0) w) := by
  have hm1 := m64; have hm2 := m32; have hn1 := n63; have hn2 := n31
  rcases hf with rfl | rfl <;> cases b
  all_goals
    go_enter Try.func20, Try.ntmps20
    go_wp2_with (first | (go_at_call 42; refine (HX _).mono ?_; rintro e w1 ⟨k, rfl, rfl⟩) | (go_at_call 43; refine (HM _).mono ?_; rintro e w1 ⟨k, rfl, rfl⟩))
    go_ret2
    exact ⟨rfl, drawn_n rfl⟩
theorem top_64_0 (fr : Int) (hf : Rt fr) (b : Bool) (a x v : Nat) (HX : ∀ w, Calls Try.prog 42 #[.int .i64 fr, .int .u64 (a : Int)] w (FQ x w)) (HM : ∀ w, Calls Try.prog 43 #[.float .f64 x] w (FQ v w))
    (N : (FloatKind.f64.format.order x x != some Ordering.eq) = false) (hb : (FloatKind.f64.format.order v 0 == some Ordering.lt) = false) (hg : (FloatKind.f64.format.order v 4895412794951729152 == some Ordering.gt || FloatKind.f64.format.order v 4895412794951729152 == some Ordering.eq) = false)
    (h6 : (FloatKind.f64.format.order v 4890909195324358656 == some Ordering.gt || FloatKind.f64.format.order v 4890909195324358656 == some Ordering.eq) = true) (y : Nat) (hy : ∀ t w, (binOp .sub t (.float .f64 v) (.float .f64 4890909195324358656)).run Try.prog w = .ok (.float .f64 y) w) (z : Int) (Z R : Nat) (hZ : IntKind.u64.wrap z = (Z : Int)) (hR : IntKind.u64.wrap ((Z : Int) + 9223372036854775808) = (R : Int)) (hc : ∀ w, (convert 51 2 (.float .f64 y)).run Try.prog w = .ok (.int .i64 z) w) (w : World) :
    Calls Try.prog 20 #[.int .i64 fr, .int .i64 64, .bool false, .bool b, .int .u64 (a : Int)] w (TrQ ((R : Int), 0) w) := by
  have hm1 := m64; have hm2 := m32; have hn1 := n63; have hn2 := n31
  rcases hf with rfl | rfl <;> cases b
  all_goals
    go_enter Try.func20, Try.ntmps20
    go_wp2_with (first | (go_at_call 42; refine (HX _).mono ?_; rintro e w1 ⟨k, rfl, rfl⟩) | (go_at_call 43; refine (HM _).mono ?_; rintro e w1 ⟨k, rfl, rfl⟩))
    go_ret2
    exact ⟨rfl, drawn_n rfl⟩
theorem over_64_1 (fr : Int) (hf : Rt fr) (b β γ : Bool) (hbg : β = true ∨ γ = true) (a x v : Nat) (HX : ∀ w, Calls Try.prog 42 #[.int .i64 fr, .int .u64 (a : Int)] w (FQ x w)) (HM : ∀ w, Calls Try.prog 43 #[.float .f64 x] w (FQ v w))
    (N : (FloatKind.f64.format.order x x != some Ordering.eq) = false) (hb : (FloatKind.f64.format.order v 14114281232179134464 == some Ordering.lt) = β) (hg : (FloatKind.f64.format.order v 4890909195324358656 == some Ordering.gt || FloatKind.f64.format.order v 4890909195324358656 == some Ordering.eq) = γ) (w : World) :
    Calls Try.prog 20 #[.int .i64 fr, .int .i64 64, .bool true, .bool b, .int .u64 (a : Int)] w (TrQ ((if b = true then (if β = true then 9223372036854775808 else 9223372036854775807, 0) else (0, 42)) : Int × Int) w) := by
  have hm1 := m64; have hm2 := m32; have hn1 := n63; have hn2 := n31
  have HC := cut64
  have hc0 := fun w => HC 18446744073709551615 w
  rcases hbg with rfl | rfl <;> rcases hf with rfl | rfl <;> cases b <;> (try cases β)
  all_goals
    go_enter Try.func20, Try.ntmps20
    go_wp2_with (first | (go_at_call 42; refine (HX _).mono ?_; rintro e w1 ⟨k, rfl, rfl⟩) | (go_at_call 43; refine (HM _).mono ?_; rintro e w1 ⟨k, rfl, rfl⟩) | (go_at_call 36; refine (hc0 _).mono ?_; rintro e w1 ⟨rfl, rfl⟩))
    go_ret2
    exact ⟨rfl, drawn_n rfl⟩
theorem neg_64_1 (fr : Int) (hf : Rt fr) (b : Bool) (a x v : Nat) (HX : ∀ w, Calls Try.prog 42 #[.int .i64 fr, .int .u64 (a : Int)] w (FQ x w)) (HM : ∀ w, Calls Try.prog 43 #[.float .f64 x] w (FQ v w))
    (N : (FloatKind.f64.format.order x x != some Ordering.eq) = false) (hb : (FloatKind.f64.format.order v 14114281232179134464 == some Ordering.lt) = false) (hg : (FloatKind.f64.format.order v 4890909195324358656 == some Ordering.gt || FloatKind.f64.format.order v 4890909195324358656 == some Ordering.eq) = false)
    (hz : (FloatKind.f64.format.order v 0 == some Ordering.lt) = true) (z : Int) (Z : Nat) (hZ : IntKind.u64.wrap z = (Z : Int)) (hc : ∀ w, (convert 51 2 (.float .f64 v)).run Try.prog w = .ok (.int .i64 z) w) (r : Nat) (HC : ∀ w, Calls Try.prog 36 #[.int .i64 64, .int .u64 (Z : Int)] w fun e w' => e = .returned (.int .u64 (r : Int)) ∧ w = w') (w : World) :
    Calls Try.prog 20 #[.int .i64 fr, .int .i64 64, .bool true, .bool b, .int .u64 (a : Int)] w (TrQ ((r : Int), 0) w) := by
  have hm1 := m64; have hm2 := m32; have hn1 := n63; have hn2 := n31
  rcases hf with rfl | rfl <;> cases b
  all_goals
    go_enter Try.func20, Try.ntmps20
    go_wp2_with (first | (go_at_call 42; refine (HX _).mono ?_; rintro e w1 ⟨k, rfl, rfl⟩) | (go_at_call 43; refine (HM _).mono ?_; rintro e w1 ⟨k, rfl, rfl⟩) | (go_at_call 36; refine (HC _).mono ?_; rintro e w1 ⟨rfl, rfl⟩))
    go_ret2
    exact ⟨rfl, drawn_n rfl⟩
theorem mid_64_1 (fr : Int) (hf : Rt fr) (b : Bool) (a x v : Nat) (HX : ∀ w, Calls Try.prog 42 #[.int .i64 fr, .int .u64 (a : Int)] w (FQ x w)) (HM : ∀ w, Calls Try.prog 43 #[.float .f64 x] w (FQ v w))
    (N : (FloatKind.f64.format.order x x != some Ordering.eq) = false) (hb : (FloatKind.f64.format.order v 14114281232179134464 == some Ordering.lt) = false) (hg : (FloatKind.f64.format.order v 4890909195324358656 == some Ordering.gt || FloatKind.f64.format.order v 4890909195324358656 == some Ordering.eq) = false)
    (hz : (FloatKind.f64.format.order v 0 == some Ordering.lt) = false) (h6 : (FloatKind.f64.format.order v 4890909195324358656 == some Ordering.gt || FloatKind.f64.format.order v 4890909195324358656 == some Ordering.eq) = false) (z : Int) (Z : Nat) (hZ : IntKind.u64.wrap z = (Z : Int)) (hc : ∀ w, (convert 51 2 (.float .f64 v)).run Try.prog w = .ok (.int .i64 z) w) (w : World) :
    Calls Try.prog 20 #[.int .i64 fr, .int .i64 64, .bool true, .bool b, .int .u64 (a : Int)] w (TrQ ((Z : Int), 0) w) := by
  have hm1 := m64; have hm2 := m32; have hn1 := n63; have hn2 := n31
  rcases hf with rfl | rfl <;> cases b
  all_goals
    go_enter Try.func20, Try.ntmps20
    go_wp2_with (first | (go_at_call 42; refine (HX _).mono ?_; rintro e w1 ⟨k, rfl, rfl⟩) | (go_at_call 43; refine (HM _).mono ?_; rintro e w1 ⟨k, rfl, rfl⟩))
    go_ret2
    exact ⟨rfl, drawn_n rfl⟩
end Go.Proofs.Ytonofklhapfdpaa.Pure
