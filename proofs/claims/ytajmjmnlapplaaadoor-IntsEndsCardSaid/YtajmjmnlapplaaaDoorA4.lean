/-
  The walk of the reference's Bin, operation by operation, over the printed contracts of what it calls.
  The walk of the reference's Bin, operation by operation, over the printed contracts of what it calls.
  The walk of the reference's Bin, operation by operation, over the printed contracts of what it calls.
  The walk of the reference's Bin, operation by operation, over the printed contracts of what it calls.
  The walk of the reference's Bin at a product: bit by bit.
  The contract of the reference's Bin: what any two come to, as the closed form 'binI' (but for what is done bit by bit).
  The program's Bin and the reference's come to the same.
-/
import Derived.Test.YtajmjmnlapplaaaDoorA2
import Derived.Test.YtajmjmnlapplaaaDoorA3
import Derived.Lib.Hide
import Derived.Outline
import Derived.LoopTactic
import Derived.OpenShut
namespace Go.Proofs.YtajmjmnlapplaaaDoor.RB
set_option linter.unusedVariables false
set_option linter.unusedSimpArgs false
open Go.RowKit Go.Proofs.YtajmjmnlapplaaaDoor.PInts Go.Proofs.YtajmjmnlapplaaaDoor.Pure Go.Proofs.YtajmjmnlapplaaaDoorW.PrintWords Go.Proofs.YtajmjmnlapplaaaDoorW.PrintLast Go.Proofs.YtajmjmnlapplaaaDoorW.PrintMore
attribute [local go_sem] max2_int min2_int max_two min_two max_three min_three max_four min_four

theorem right_c (n : Int) (w : World) (h : R n) : Calls Tryd.prog 31 #[.int .i64 n] w fun e w' => e = .returned (.bool true) ∧ Drawn0 w w' :=
  bodkinref02_Right.calls n true w (rRight_yes n h)
theorem cut_c (n a : Int) (w : World) (h : R n) (h0 : 0 ≤ a) (h1 : a < 18446744073709551616) : Calls Tryd.prog 24 #[.int .i64 n, .int .u64 a] w fun e w' => e = .returned (.int .u64 (a % pw n)) ∧ Drawn0 w w' :=
  bodkinref02_Cut.calls 100 n a _ w (rCut 100 n a (by omega) h h0 h1)
theorem cut_w (n a : Int) (w : World) (h : R n) : Calls Tryd.prog 24 #[.int .i64 n, .int .u64 (IntKind.u64.wrap a)] w fun e w' => e = .returned (.int .u64 (a % pw n)) ∧ Drawn0 w w' := by
  have hu : 0 ≤ IntKind.u64.wrap a ∧ IntKind.u64.wrap a < 18446744073709551616 := by rw [IntKind.wrap_u64]; omega
  have := cut_c n _ w h hu.1 hu.2
  rw [wrap_cut2 n a h] at this
  exact this
theorem signed_c (n a : Int) (w : World) (h : R n) (h0 : 0 ≤ a) (h1 : a < 18446744073709551616) : Calls Tryd.prog 23 #[.int .i64 n, .int .u64 a] w fun e w' => e = .returned (.int .i64 (sg n (a % pw n))) ∧ Drawn0 w w' :=
  bodkinref02_Signed.calls 100 n a _ w (rSigned 100 n a (by omega) h h0 h1)


set_option maxHeartbeats 1000000 in
set_option maxRecDepth 100000 in
theorem rb_wrong (n op a b : Int) (w : World) (h : ¬ R n) :
    Calls Tryd.prog 17 #[.int .i64 n, .int .i64 op, .int .u64 a, .int .u64 b] w fun e w' => e = .returned (.tuple #[.int .u64 0, .int .i64 1]) ∧ Below w.heap.size w w' := by
  have HR := Lib.hid (rRight_no n h)
  clear h
  go_enter Tryd.func17, Tryd.ntmps17
  go_wp2_with fail
  refine (bodkinref02_Right.calls n false _ HR.out).mono ?_
  rintro e w' ⟨rfl, ⟨d1, rfl⟩⟩
  go_wp2_with fail
  all_goals (first | go_ret2 | skip)
  all_goals exact ⟨rfl, (by repeat (first | exact Below.refl _ _ | apply below_alloc | apply pw_below_drewN | apply below_drew1))⟩
set_option maxHeartbeats 1000000 in
set_option maxRecDepth 100000 in
theorem rb_low (n op a b : Int) (w : World) (h : R n) (ho : op < 1) :
    Calls Tryd.prog 17 #[.int .i64 n, .int .i64 op, .int .u64 a, .int .u64 b] w fun e w' => e = .returned (.tuple #[.int .u64 0, .int .i64 1]) ∧ Below w.heap.size w w' := by
  have H := Lib.hid h
  clear h
  have h1 : decide (op < 1) = true := decide_eq_true ho
  go_enter Tryd.func17, Tryd.ntmps17
  go_wp2_with fail
  refine (right_c n _ H.out).mono ?_
  rintro e w' ⟨rfl, ⟨d1, rfl⟩⟩
  go_wp2_with fail
  all_goals (first | go_ret2 | skip)
  all_goals exact ⟨rfl, (by repeat (first | exact Below.refl _ _ | apply below_alloc | apply pw_below_drewN | apply below_drew1))⟩
set_option maxHeartbeats 1000000 in
set_option maxRecDepth 100000 in
theorem rb_high (n op a b : Int) (w : World) (h : R n) (ho : op > 25) :
    Calls Tryd.prog 17 #[.int .i64 n, .int .i64 op, .int .u64 a, .int .u64 b] w fun e w' => e = .returned (.tuple #[.int .u64 0, .int .i64 1]) ∧ Below w.heap.size w w' := by
  have H := Lib.hid h
  clear h
  have h1 : decide (op < 1) = false := decide_eq_false (by omega)
  have h2 : decide (25 < op) = true := decide_eq_true ho
  go_enter Tryd.func17, Tryd.ntmps17
  go_wp2_with fail
  refine (right_c n _ H.out).mono ?_
  rintro e w' ⟨rfl, ⟨d1, rfl⟩⟩
  go_wp2_with fail
  all_goals (first | go_ret2 | skip)
  all_goals exact ⟨rfl, (by repeat (first | exact Below.refl _ _ | apply below_alloc | apply pw_below_drewN | apply below_drew1))⟩
set_option maxHeartbeats 1000000 in
set_option maxRecDepth 100000 in
theorem rb_odd (n a b : Int) (w : World) (h : R n) (ho : n ≠ 16) :
    Calls Tryd.prog 17 #[.int .i64 n, .int .i64 25, .int .u64 a, .int .u64 b] w fun e w' => e = .returned (.tuple #[.int .u64 0, .int .i64 1]) ∧ Below w.heap.size w w' := by
  have H := Lib.hid h
  clear h
  have h1 : (n != 16) = true := by simp [ho]
  clear ho
  go_enter Tryd.func17, Tryd.ntmps17
  go_wp2_with fail
  refine (right_c n _ H.out).mono ?_
  rintro e w' ⟨rfl, ⟨d1, rfl⟩⟩
  go_wp2_with fail
  all_goals (first | go_ret2 | skip)
  all_goals exact ⟨rfl, (by repeat (first | exact Below.refl _ _ | apply below_alloc | apply pw_below_drewN | apply below_drew1))⟩
theorem close5 {w w' : World} {d : Nat} (h : Below (w.drewN d).heap.size (w.drewN d) w') : Below w.heap.size w w' := by
  refine Below.trans ?_ (h.mono (by simp))
  repeat (first | exact Below.refl _ _ | apply pw_below_drewN)
end Go.Proofs.YtajmjmnlapplaaaDoor.RB

namespace Go.Proofs.YtajmjmnlapplaaaDoor.RB
set_option linter.unusedVariables false
set_option linter.unusedSimpArgs false
open Go.RowKit Go.Proofs.YtajmjmnlapplaaaDoor.PInts Go.Proofs.YtajmjmnlapplaaaDoor.Pure Go.Proofs.YtajmjmnlapplaaaDoorW.PrintWords Go.Proofs.YtajmjmnlapplaaaDoorW.PrintLast Go.Proofs.YtajmjmnlapplaaaDoorW.PrintMore
attribute [local go_sem] max2_int min2_int max_two min_two max_three min_three max_four min_four

set_option maxHeartbeats 1000000 in
set_option maxRecDepth 100000 in
theorem rb1 (n a b : Int) (w : World) (h : R n) (a0 : 0 ≤ a) (a1 : a < 18446744073709551616) (b0 : 0 ≤ b) (b1 : b < 18446744073709551616) :
    Calls Tryd.prog 17 #[.int .i64 n, .int .i64 1, .int .u64 a, .int .u64 b] w fun e w' => e = .returned (.tuple #[.int .u64 (binI n 1 (a % pw n) (b % pw n)).1, .int .i64 (binI n 1 (a % pw n) (b % pw n)).2]) ∧ Below w.heap.size w w' := by
  have H := Lib.hid h
  have hn : 8 ≤ n ∧ n ≤ 64 := by unfold R at h; omega
  have ca := cut_bounds n a; have cb := cut_bounds n b; have hp := pw_pos n
  have ha := cut_c n a (h := h) (h0 := a0) (h1 := a1); have hb := cut_c n b (h := h) (h0 := b0) (h1 := b1)
  have sa := signed_c n (a % pw n) (h := h) (h0 := ca.1) (h1 := by omega); have sb := signed_c n (b % pw n) (h := h) (h0 := cb.1) (h1 := by omega)
  rw [cut_cut] at sa sb
  have HA := Lib.hid ha; have HB := Lib.hid hb; have SA := Lib.hid sa; have SB := Lib.hid sb
  have A0 : 0 ≤ a % pw n := ca.1
  have B0 : 0 ≤ b % pw n := cb.1
  have A1 : a % pw n < 18446744073709551616 := by omega
  have B1 : b % pw n < 18446744073709551616 := by omega
  have CA := Lib.hid ca.2; have CB := Lib.hid cb.2
  clear ha hb sa sb h ca cb hp
  generalize a % pw n = A at *
  generalize b % pw n = B at *
  generalize hX : sg n A = X at *
  generalize hY : sg n B = Y at *
  have HX := Lib.hid hX; have HY := Lib.hid hY
  clear hX hY
  go_enter Tryd.func17, Tryd.ntmps17
  go_wp2_with fail
  refine (right_c n _ H.out).mono ?_
  rintro e w' ⟨rfl, ⟨d1, rfl⟩⟩
  go_wp2_with fail
  refine (HA.out _).mono ?_
  rintro e w' ⟨rfl, ⟨d2, rfl⟩⟩
  go_wp2_with fail
  refine (HB.out _).mono ?_
  rintro e w' ⟨rfl, ⟨d3, rfl⟩⟩
  go_wp2_with fail
  refine (SA.out _).mono ?_
  rintro e w' ⟨rfl, ⟨d4, rfl⟩⟩
  go_wp2_with fail
  refine (SB.out _).mono ?_
  rintro e w' ⟨rfl, ⟨d5, rfl⟩⟩
  go_wp2_with fail
  refine (cut_w n _ _ H.out).mono ?_
  rintro e w' ⟨rfl, ⟨d6, rfl⟩⟩
  go_wp2_with fail
  go_ret2
  exact ⟨rfl, (by repeat (first | exact Below.refl _ _ | apply below_alloc | apply pw_below_drewN | apply below_drew1))⟩
set_option maxHeartbeats 1000000 in
set_option maxRecDepth 100000 in
theorem rb2 (n a b : Int) (w : World) (h : R n) (a0 : 0 ≤ a) (a1 : a < 18446744073709551616) (b0 : 0 ≤ b) (b1 : b < 18446744073709551616) :
    Calls Tryd.prog 17 #[.int .i64 n, .int .i64 2, .int .u64 a, .int .u64 b] w fun e w' => e = .returned (.tuple #[.int .u64 (binI n 2 (a % pw n) (b % pw n)).1, .int .i64 (binI n 2 (a % pw n) (b % pw n)).2]) ∧ Below w.heap.size w w' := by
  have H := Lib.hid h
  have hn : 8 ≤ n ∧ n ≤ 64 := by unfold R at h; omega
  have ca := cut_bounds n a; have cb := cut_bounds n b; have hp := pw_pos n
  have ha := cut_c n a (h := h) (h0 := a0) (h1 := a1); have hb := cut_c n b (h := h) (h0 := b0) (h1 := b1)
  have sa := signed_c n (a % pw n) (h := h) (h0 := ca.1) (h1 := by omega); have sb := signed_c n (b % pw n) (h := h) (h0 := cb.1) (h1 := by omega)
  rw [cut_cut] at sa sb
  have HA := Lib.hid ha; have HB := Lib.hid hb; have SA := Lib.hid sa; have SB := Lib.hid sb
  have A0 : 0 ≤ a % pw n := ca.1
  have B0 : 0 ≤ b % pw n := cb.1
  have A1 : a % pw n < 18446744073709551616 := by omega
  have B1 : b % pw n < 18446744073709551616 := by omega
  have CA := Lib.hid ca.2; have CB := Lib.hid cb.2
  clear ha hb sa sb h ca cb hp
  generalize a % pw n = A at *
  generalize b % pw n = B at *
  generalize hX : sg n A = X at *
  generalize hY : sg n B = Y at *
  have HX := Lib.hid hX; have HY := Lib.hid hY
  clear hX hY
  go_enter Tryd.func17, Tryd.ntmps17
  go_wp2_with fail
  refine (right_c n _ H.out).mono ?_
  rintro e w' ⟨rfl, ⟨d1, rfl⟩⟩
  go_wp2_with fail
  refine (HA.out _).mono ?_
  rintro e w' ⟨rfl, ⟨d2, rfl⟩⟩
  go_wp2_with fail
  refine (HB.out _).mono ?_
  rintro e w' ⟨rfl, ⟨d3, rfl⟩⟩
  go_wp2_with fail
  refine (SA.out _).mono ?_
  rintro e w' ⟨rfl, ⟨d4, rfl⟩⟩
  go_wp2_with fail
  refine (SB.out _).mono ?_
  rintro e w' ⟨rfl, ⟨d5, rfl⟩⟩
  go_wp2_with fail
  refine (cut_w n _ _ H.out).mono ?_
  rintro e w' ⟨rfl, ⟨d6, rfl⟩⟩
  go_wp2_with fail
  go_ret2
  exact ⟨rfl, (by repeat (first | exact Below.refl _ _ | apply below_alloc | apply pw_below_drewN | apply below_drew1))⟩
set_option maxHeartbeats 1000000 in
set_option maxRecDepth 100000 in
theorem rb4 (n a b : Int) (w : World) (h : R n) (a0 : 0 ≤ a) (a1 : a < 18446744073709551616) (b0 : 0 ≤ b) (b1 : b < 18446744073709551616) :
    Calls Tryd.prog 17 #[.int .i64 n, .int .i64 4, .int .u64 a, .int .u64 b] w fun e w' => e = .returned (.tuple #[.int .u64 (binI n 4 (a % pw n) (b % pw n)).1, .int .i64 (binI n 4 (a % pw n) (b % pw n)).2]) ∧ Below w.heap.size w w' := by
  have H := Lib.hid h
  have hn : 8 ≤ n ∧ n ≤ 64 := by unfold R at h; omega
  have ca := cut_bounds n a; have cb := cut_bounds n b; have hp := pw_pos n
  have ha := cut_c n a (h := h) (h0 := a0) (h1 := a1); have hb := cut_c n b (h := h) (h0 := b0) (h1 := b1)
  have sa := signed_c n (a % pw n) (h := h) (h0 := ca.1) (h1 := by omega); have sb := signed_c n (b % pw n) (h := h) (h0 := cb.1) (h1 := by omega)
  rw [cut_cut] at sa sb
  have HA := Lib.hid ha; have HB := Lib.hid hb; have SA := Lib.hid sa; have SB := Lib.hid sb
  have dv : ∀ w : World, Calls Tryd.prog 33 #[.int .i64 n, .int .i64 4, .int .u64 (a % pw n), .int .u64 (b % pw n), .int .i64 (sg n (a % pw n)), .int .i64 (sg n (b % pw n))] w fun e w' => e = .returned (.tuple #[.int .u64 (binI n 4 (a % pw n) (b % pw n)).1, .int .i64 (binI n 4 (a % pw n) (b % pw n)).2]) ∧ Below w.heap.size w w' :=
    fun w => bodkinref02_divided.calls 101 n 4 _ _ _ _ _ _ w (rDivided 100 n 4 _ _ (by omega) h (by omega) ca.1 ca.2 cb.1 cb.2)
  have DV := Lib.hid dv
  clear dv
  have A0 : 0 ≤ a % pw n := ca.1
  have B0 : 0 ≤ b % pw n := cb.1
  have A1 : a % pw n < 18446744073709551616 := by omega
  have B1 : b % pw n < 18446744073709551616 := by omega
  have CA := Lib.hid ca.2; have CB := Lib.hid cb.2
  clear ha hb sa sb h ca cb hp
  generalize a % pw n = A at *
  generalize b % pw n = B at *
  generalize hX : sg n A = X at *
  generalize hY : sg n B = Y at *
  have HX := Lib.hid hX; have HY := Lib.hid hY
  clear hX hY
  go_enter Tryd.func17, Tryd.ntmps17
  go_wp2_with fail
  refine (right_c n _ H.out).mono ?_
  rintro e w' ⟨rfl, ⟨d1, rfl⟩⟩
  go_wp2_with fail
  refine (HA.out _).mono ?_
  rintro e w' ⟨rfl, ⟨d2, rfl⟩⟩
  go_wp2_with fail
  refine (HB.out _).mono ?_
  rintro e w' ⟨rfl, ⟨d3, rfl⟩⟩
  go_wp2_with fail
  refine (SA.out _).mono ?_
  rintro e w' ⟨rfl, ⟨d4, rfl⟩⟩
  go_wp2_with fail
  refine (SB.out _).mono ?_
  rintro e w' ⟨rfl, ⟨d5, rfl⟩⟩
  go_wp2_with fail
  refine (DV.out _).mono ?_
  rintro e w' ⟨rfl, hbl⟩
  have hbl := Lib.hid hbl
  go_wp2_with fail
  go_ret2
  exact ⟨rfl, close5 hbl.out⟩
set_option maxHeartbeats 1000000 in
set_option maxRecDepth 100000 in
theorem rb5 (n a b : Int) (w : World) (h : R n) (a0 : 0 ≤ a) (a1 : a < 18446744073709551616) (b0 : 0 ≤ b) (b1 : b < 18446744073709551616) :
    Calls Tryd.prog 17 #[.int .i64 n, .int .i64 5, .int .u64 a, .int .u64 b] w fun e w' => e = .returned (.tuple #[.int .u64 (binI n 5 (a % pw n) (b % pw n)).1, .int .i64 (binI n 5 (a % pw n) (b % pw n)).2]) ∧ Below w.heap.size w w' := by
  have H := Lib.hid h
  have hn : 8 ≤ n ∧ n ≤ 64 := by unfold R at h; omega
  have ca := cut_bounds n a; have cb := cut_bounds n b; have hp := pw_pos n
  have ha := cut_c n a (h := h) (h0 := a0) (h1 := a1); have hb := cut_c n b (h := h) (h0 := b0) (h1 := b1)
  have sa := signed_c n (a % pw n) (h := h) (h0 := ca.1) (h1 := by omega); have sb := signed_c n (b % pw n) (h := h) (h0 := cb.1) (h1 := by omega)
  rw [cut_cut] at sa sb
  have HA := Lib.hid ha; have HB := Lib.hid hb; have SA := Lib.hid sa; have SB := Lib.hid sb
  have dv : ∀ w : World, Calls Tryd.prog 33 #[.int .i64 n, .int .i64 5, .int .u64 (a % pw n), .int .u64 (b % pw n), .int .i64 (sg n (a % pw n)), .int .i64 (sg n (b % pw n))] w fun e w' => e = .returned (.tuple #[.int .u64 (binI n 5 (a % pw n) (b % pw n)).1, .int .i64 (binI n 5 (a % pw n) (b % pw n)).2]) ∧ Below w.heap.size w w' :=
    fun w => bodkinref02_divided.calls 101 n 5 _ _ _ _ _ _ w (rDivided 100 n 5 _ _ (by omega) h (by omega) ca.1 ca.2 cb.1 cb.2)
  have DV := Lib.hid dv
  clear dv
  have A0 : 0 ≤ a % pw n := ca.1
  have B0 : 0 ≤ b % pw n := cb.1
  have A1 : a % pw n < 18446744073709551616 := by omega
  have B1 : b % pw n < 18446744073709551616 := by omega
  have CA := Lib.hid ca.2; have CB := Lib.hid cb.2
  clear ha hb sa sb h ca cb hp
  generalize a % pw n = A at *
  generalize b % pw n = B at *
  generalize hX : sg n A = X at *
  generalize hY : sg n B = Y at *
  have HX := Lib.hid hX; have HY := Lib.hid hY
  clear hX hY
  go_enter Tryd.func17, Tryd.ntmps17
  go_wp2_with fail
  refine (right_c n _ H.out).mono ?_
  rintro e w' ⟨rfl, ⟨d1, rfl⟩⟩
  go_wp2_with fail
  refine (HA.out _).mono ?_
  rintro e w' ⟨rfl, ⟨d2, rfl⟩⟩
  go_wp2_with fail
  refine (HB.out _).mono ?_
  rintro e w' ⟨rfl, ⟨d3, rfl⟩⟩
  go_wp2_with fail
  refine (SA.out _).mono ?_
  rintro e w' ⟨rfl, ⟨d4, rfl⟩⟩
  go_wp2_with fail
  refine (SB.out _).mono ?_
  rintro e w' ⟨rfl, ⟨d5, rfl⟩⟩
  go_wp2_with fail
  refine (DV.out _).mono ?_
  rintro e w' ⟨rfl, hbl⟩
  have hbl := Lib.hid hbl
  go_wp2_with fail
  go_ret2
  exact ⟨rfl, close5 hbl.out⟩
set_option maxHeartbeats 1000000 in
set_option maxRecDepth 100000 in
theorem rb6 (n a b : Int) (w : World) (h : R n) (a0 : 0 ≤ a) (a1 : a < 18446744073709551616) (b0 : 0 ≤ b) (b1 : b < 18446744073709551616) :
    Calls Tryd.prog 17 #[.int .i64 n, .int .i64 6, .int .u64 a, .int .u64 b] w fun e w' => e = .returned (.tuple #[.int .u64 (binI n 6 (a % pw n) (b % pw n)).1, .int .i64 (binI n 6 (a % pw n) (b % pw n)).2]) ∧ Below w.heap.size w w' := by
  have H := Lib.hid h
  have hn : 8 ≤ n ∧ n ≤ 64 := by unfold R at h; omega
  have ca := cut_bounds n a; have cb := cut_bounds n b; have hp := pw_pos n
  have ha := cut_c n a (h := h) (h0 := a0) (h1 := a1); have hb := cut_c n b (h := h) (h0 := b0) (h1 := b1)
  have sa := signed_c n (a % pw n) (h := h) (h0 := ca.1) (h1 := by omega); have sb := signed_c n (b % pw n) (h := h) (h0 := cb.1) (h1 := by omega)
  rw [cut_cut] at sa sb
  have HA := Lib.hid ha; have HB := Lib.hid hb; have SA := Lib.hid sa; have SB := Lib.hid sb
  have dv : ∀ w : World, Calls Tryd.prog 33 #[.int .i64 n, .int .i64 6, .int .u64 (a % pw n), .int .u64 (b % pw n), .int .i64 (sg n (a % pw n)), .int .i64 (sg n (b % pw n))] w fun e w' => e = .returned (.tuple #[.int .u64 (binI n 6 (a % pw n) (b % pw n)).1, .int .i64 (binI n 6 (a % pw n) (b % pw n)).2]) ∧ Below w.heap.size w w' :=
    fun w => bodkinref02_divided.calls 101 n 6 _ _ _ _ _ _ w (rDivided 100 n 6 _ _ (by omega) h (by omega) ca.1 ca.2 cb.1 cb.2)
  have DV := Lib.hid dv
  clear dv
  have A0 : 0 ≤ a % pw n := ca.1
  have B0 : 0 ≤ b % pw n := cb.1
  have A1 : a % pw n < 18446744073709551616 := by omega
  have B1 : b % pw n < 18446744073709551616 := by omega
  have CA := Lib.hid ca.2; have CB := Lib.hid cb.2
  clear ha hb sa sb h ca cb hp
  generalize a % pw n = A at *
  generalize b % pw n = B at *
  generalize hX : sg n A = X at *
  generalize hY : sg n B = Y at *
  have HX := Lib.hid hX; have HY := Lib.hid hY
  clear hX hY
  go_enter Tryd.func17, Tryd.ntmps17
  go_wp2_with fail
  refine (right_c n _ H.out).mono ?_
  rintro e w' ⟨rfl, ⟨d1, rfl⟩⟩
  go_wp2_with fail
  refine (HA.out _).mono ?_
  rintro e w' ⟨rfl, ⟨d2, rfl⟩⟩
  go_wp2_with fail
  refine (HB.out _).mono ?_
  rintro e w' ⟨rfl, ⟨d3, rfl⟩⟩
  go_wp2_with fail
  refine (SA.out _).mono ?_
  rintro e w' ⟨rfl, ⟨d4, rfl⟩⟩
  go_wp2_with fail
  refine (SB.out _).mono ?_
  rintro e w' ⟨rfl, ⟨d5, rfl⟩⟩
  go_wp2_with fail
  refine (DV.out _).mono ?_
  rintro e w' ⟨rfl, hbl⟩
  have hbl := Lib.hid hbl
  go_wp2_with fail
  go_ret2
  exact ⟨rfl, close5 hbl.out⟩
set_option maxHeartbeats 1000000 in
set_option maxRecDepth 100000 in
theorem rb7 (n a b : Int) (w : World) (h : R n) (a0 : 0 ≤ a) (a1 : a < 18446744073709551616) (b0 : 0 ≤ b) (b1 : b < 18446744073709551616) :
    Calls Tryd.prog 17 #[.int .i64 n, .int .i64 7, .int .u64 a, .int .u64 b] w fun e w' => e = .returned (.tuple #[.int .u64 (binI n 7 (a % pw n) (b % pw n)).1, .int .i64 (binI n 7 (a % pw n) (b % pw n)).2]) ∧ Below w.heap.size w w' := by
  have H := Lib.hid h
  have hn : 8 ≤ n ∧ n ≤ 64 := by unfold R at h; omega
  have ca := cut_bounds n a; have cb := cut_bounds n b; have hp := pw_pos n
  have ha := cut_c n a (h := h) (h0 := a0) (h1 := a1); have hb := cut_c n b (h := h) (h0 := b0) (h1 := b1)
  have sa := signed_c n (a % pw n) (h := h) (h0 := ca.1) (h1 := by omega); have sb := signed_c n (b % pw n) (h := h) (h0 := cb.1) (h1 := by omega)
  rw [cut_cut] at sa sb
  have HA := Lib.hid ha; have HB := Lib.hid hb; have SA := Lib.hid sa; have SB := Lib.hid sb
  have dv : ∀ w : World, Calls Tryd.prog 33 #[.int .i64 n, .int .i64 7, .int .u64 (a % pw n), .int .u64 (b % pw n), .int .i64 (sg n (a % pw n)), .int .i64 (sg n (b % pw n))] w fun e w' => e = .returned (.tuple #[.int .u64 (binI n 7 (a % pw n) (b % pw n)).1, .int .i64 (binI n 7 (a % pw n) (b % pw n)).2]) ∧ Below w.heap.size w w' :=
    fun w => bodkinref02_divided.calls 101 n 7 _ _ _ _ _ _ w (rDivided 100 n 7 _ _ (by omega) h (by omega) ca.1 ca.2 cb.1 cb.2)
  have DV := Lib.hid dv
  clear dv
  have A0 : 0 ≤ a % pw n := ca.1
  have B0 : 0 ≤ b % pw n := cb.1
  have A1 : a % pw n < 18446744073709551616 := by omega
  have B1 : b % pw n < 18446744073709551616 := by omega
  have CA := Lib.hid ca.2; have CB := Lib.hid cb.2
  clear ha hb sa sb h ca cb hp
  generalize a % pw n = A at *
  generalize b % pw n = B at *
  generalize hX : sg n A = X at *
  generalize hY : sg n B = Y at *
  have HX := Lib.hid hX; have HY := Lib.hid hY
  clear hX hY
  go_enter Tryd.func17, Tryd.ntmps17
  go_wp2_with fail
  refine (right_c n _ H.out).mono ?_
  rintro e w' ⟨rfl, ⟨d1, rfl⟩⟩
  go_wp2_with fail
  refine (HA.out _).mono ?_
  rintro e w' ⟨rfl, ⟨d2, rfl⟩⟩
  go_wp2_with fail
  refine (HB.out _).mono ?_
  rintro e w' ⟨rfl, ⟨d3, rfl⟩⟩
  go_wp2_with fail
  refine (SA.out _).mono ?_
  rintro e w' ⟨rfl, ⟨d4, rfl⟩⟩
  go_wp2_with fail
  refine (SB.out _).mono ?_
  rintro e w' ⟨rfl, ⟨d5, rfl⟩⟩
  go_wp2_with fail
  refine (DV.out _).mono ?_
  rintro e w' ⟨rfl, hbl⟩
  have hbl := Lib.hid hbl
  go_wp2_with fail
  go_ret2
  exact ⟨rfl, close5 hbl.out⟩
end Go.Proofs.YtajmjmnlapplaaaDoor.RB

namespace Go.Proofs.YtajmjmnlapplaaaDoor.RB
set_option linter.unusedVariables false
set_option linter.unusedSimpArgs false
open Go.RowKit Go.Proofs.YtajmjmnlapplaaaDoor.PInts Go.Proofs.YtajmjmnlapplaaaDoor.Pure Go.Proofs.YtajmjmnlapplaaaDoorW.PrintWords Go.Proofs.YtajmjmnlapplaaaDoorW.PrintLast Go.Proofs.YtajmjmnlapplaaaDoorW.PrintMore
attribute [local go_sem] max2_int min2_int max_two min_two max_three min_three max_four min_four

set_option maxHeartbeats 1000000 in
set_option maxRecDepth 100000 in
theorem rb16 (n a b : Int) (w : World) (h : R n) (a0 : 0 ≤ a) (a1 : a < 18446744073709551616) (b0 : 0 ≤ b) (b1 : b < 18446744073709551616) :
    Calls Tryd.prog 17 #[.int .i64 n, .int .i64 16, .int .u64 a, .int .u64 b] w fun e w' => e = .returned (.tuple #[.int .u64 (binI n 16 (a % pw n) (b % pw n)).1, .int .i64 (binI n 16 (a % pw n) (b % pw n)).2]) ∧ Below w.heap.size w w' := by
  have H := Lib.hid h
  have hn : 8 ≤ n ∧ n ≤ 64 := by unfold R at h; omega
  have ca := cut_bounds n a; have cb := cut_bounds n b; have hp := pw_pos n
  have ha := cut_c n a (h := h) (h0 := a0) (h1 := a1); have hb := cut_c n b (h := h) (h0 := b0) (h1 := b1)
  have sa := signed_c n (a % pw n) (h := h) (h0 := ca.1) (h1 := by omega); have sb := signed_c n (b % pw n) (h := h) (h0 := cb.1) (h1 := by omega)
  rw [cut_cut] at sa sb
  have HA := Lib.hid ha; have HB := Lib.hid hb; have SA := Lib.hid sa; have SB := Lib.hid sb
  have dv : ∀ w : World, Calls Tryd.prog 37 #[.int .i64 n, .int .i64 16, .int .u64 (a % pw n), .int .u64 (b % pw n), .int .i64 (sg n (a % pw n)), .int .i64 (sg n (b % pw n))] w fun e w' => e = .returned (.int .u64 (binI n 16 (a % pw n) (b % pw n)).1) ∧ Drawn0 w w' :=
    fun w => bodkinref02_held.calls 103 n 16 _ _ _ _ _ w (rHeld_sat 100 n _ _ (by omega) h ca.1 ca.2 cb.1 cb.2 16 (by omega))
  have DV := Lib.hid dv
  clear dv
  have A0 : 0 ≤ a % pw n := ca.1
  have B0 : 0 ≤ b % pw n := cb.1
  have A1 : a % pw n < 18446744073709551616 := by omega
  have B1 : b % pw n < 18446744073709551616 := by omega
  have CA := Lib.hid ca.2; have CB := Lib.hid cb.2
  clear ha hb sa sb h ca cb hp
  generalize a % pw n = A at *
  generalize b % pw n = B at *
  generalize hX : sg n A = X at *
  generalize hY : sg n B = Y at *
  have HX := Lib.hid hX; have HY := Lib.hid hY
  clear hX hY
  go_enter Tryd.func17, Tryd.ntmps17
  go_wp2_with fail
  refine (right_c n _ H.out).mono ?_
  rintro e w' ⟨rfl, ⟨d1, rfl⟩⟩
  go_wp2_with fail
  refine (HA.out _).mono ?_
  rintro e w' ⟨rfl, ⟨d2, rfl⟩⟩
  go_wp2_with fail
  refine (HB.out _).mono ?_
  rintro e w' ⟨rfl, ⟨d3, rfl⟩⟩
  go_wp2_with fail
  refine (SA.out _).mono ?_
  rintro e w' ⟨rfl, ⟨d4, rfl⟩⟩
  go_wp2_with fail
  refine (SB.out _).mono ?_
  rintro e w' ⟨rfl, ⟨d5, rfl⟩⟩
  go_wp2_with fail
  refine (DV.out _).mono ?_
  rintro e w' ⟨rfl, ⟨d6, rfl⟩⟩
  go_wp2_with fail
  go_ret2
  exact ⟨rfl, (by repeat (first | exact Below.refl _ _ | apply below_alloc | apply pw_below_drewN | apply below_drew1))⟩
set_option maxHeartbeats 1000000 in
set_option maxRecDepth 100000 in
theorem rb17 (n a b : Int) (w : World) (h : R n) (a0 : 0 ≤ a) (a1 : a < 18446744073709551616) (b0 : 0 ≤ b) (b1 : b < 18446744073709551616) :
    Calls Tryd.prog 17 #[.int .i64 n, .int .i64 17, .int .u64 a, .int .u64 b] w fun e w' => e = .returned (.tuple #[.int .u64 (binI n 17 (a % pw n) (b % pw n)).1, .int .i64 (binI n 17 (a % pw n) (b % pw n)).2]) ∧ Below w.heap.size w w' := by
  have H := Lib.hid h
  have hn : 8 ≤ n ∧ n ≤ 64 := by unfold R at h; omega
  have ca := cut_bounds n a; have cb := cut_bounds n b; have hp := pw_pos n
  have ha := cut_c n a (h := h) (h0 := a0) (h1 := a1); have hb := cut_c n b (h := h) (h0 := b0) (h1 := b1)
  have sa := signed_c n (a % pw n) (h := h) (h0 := ca.1) (h1 := by omega); have sb := signed_c n (b % pw n) (h := h) (h0 := cb.1) (h1 := by omega)
  rw [cut_cut] at sa sb
  have HA := Lib.hid ha; have HB := Lib.hid hb; have SA := Lib.hid sa; have SB := Lib.hid sb
  have dv : ∀ w : World, Calls Tryd.prog 37 #[.int .i64 n, .int .i64 17, .int .u64 (a % pw n), .int .u64 (b % pw n), .int .i64 (sg n (a % pw n)), .int .i64 (sg n (b % pw n))] w fun e w' => e = .returned (.int .u64 (binI n 17 (a % pw n) (b % pw n)).1) ∧ Drawn0 w w' :=
    fun w => bodkinref02_held.calls 103 n 17 _ _ _ _ _ w (rHeld_rest 100 n _ _ (by omega) h ca.1 ca.2 cb.1 cb.2 17 (by omega))
  have DV := Lib.hid dv
  clear dv
  have A0 : 0 ≤ a % pw n := ca.1
  have B0 : 0 ≤ b % pw n := cb.1
  have A1 : a % pw n < 18446744073709551616 := by omega
  have B1 : b % pw n < 18446744073709551616 := by omega
  have CA := Lib.hid ca.2; have CB := Lib.hid cb.2
  clear ha hb sa sb h ca cb hp
  generalize a % pw n = A at *
  generalize b % pw n = B at *
  generalize hX : sg n A = X at *
  generalize hY : sg n B = Y at *
  have HX := Lib.hid hX; have HY := Lib.hid hY
  clear hX hY
  go_enter Tryd.func17, Tryd.ntmps17
  go_wp2_with fail
  refine (right_c n _ H.out).mono ?_
  rintro e w' ⟨rfl, ⟨d1, rfl⟩⟩
  go_wp2_with fail
  refine (HA.out _).mono ?_
  rintro e w' ⟨rfl, ⟨d2, rfl⟩⟩
  go_wp2_with fail
  refine (HB.out _).mono ?_
  rintro e w' ⟨rfl, ⟨d3, rfl⟩⟩
  go_wp2_with fail
  refine (SA.out _).mono ?_
  rintro e w' ⟨rfl, ⟨d4, rfl⟩⟩
  go_wp2_with fail
  refine (SB.out _).mono ?_
  rintro e w' ⟨rfl, ⟨d5, rfl⟩⟩
  go_wp2_with fail
  refine (DV.out _).mono ?_
  rintro e w' ⟨rfl, ⟨d6, rfl⟩⟩
  go_wp2_with fail
  go_ret2
  exact ⟨rfl, (by repeat (first | exact Below.refl _ _ | apply below_alloc | apply pw_below_drewN | apply below_drew1))⟩
set_option maxHeartbeats 1000000 in
set_option maxRecDepth 100000 in
theorem rb18 (n a b : Int) (w : World) (h : R n) (a0 : 0 ≤ a) (a1 : a < 18446744073709551616) (b0 : 0 ≤ b) (b1 : b < 18446744073709551616) :
    Calls Tryd.prog 17 #[.int .i64 n, .int .i64 18, .int .u64 a, .int .u64 b] w fun e w' => e = .returned (.tuple #[.int .u64 (binI n 18 (a % pw n) (b % pw n)).1, .int .i64 (binI n 18 (a % pw n) (b % pw n)).2]) ∧ Below w.heap.size w w' := by
  have H := Lib.hid h
  have hn : 8 ≤ n ∧ n ≤ 64 := by unfold R at h; omega
  have ca := cut_bounds n a; have cb := cut_bounds n b; have hp := pw_pos n
  have ha := cut_c n a (h := h) (h0 := a0) (h1 := a1); have hb := cut_c n b (h := h) (h0 := b0) (h1 := b1)
  have sa := signed_c n (a % pw n) (h := h) (h0 := ca.1) (h1 := by omega); have sb := signed_c n (b % pw n) (h := h) (h0 := cb.1) (h1 := by omega)
  rw [cut_cut] at sa sb
  have HA := Lib.hid ha; have HB := Lib.hid hb; have SA := Lib.hid sa; have SB := Lib.hid sb
  have dv : ∀ w : World, Calls Tryd.prog 37 #[.int .i64 n, .int .i64 18, .int .u64 (a % pw n), .int .u64 (b % pw n), .int .i64 (sg n (a % pw n)), .int .i64 (sg n (b % pw n))] w fun e w' => e = .returned (.int .u64 (binI n 18 (a % pw n) (b % pw n)).1) ∧ Drawn0 w w' :=
    fun w => bodkinref02_held.calls 103 n 18 _ _ _ _ _ w (rHeld_sat 100 n _ _ (by omega) h ca.1 ca.2 cb.1 cb.2 18 (by omega))
  have DV := Lib.hid dv
  clear dv
  have A0 : 0 ≤ a % pw n := ca.1
  have B0 : 0 ≤ b % pw n := cb.1
  have A1 : a % pw n < 18446744073709551616 := by omega
  have B1 : b % pw n < 18446744073709551616 := by omega
  have CA := Lib.hid ca.2; have CB := Lib.hid cb.2
  clear ha hb sa sb h ca cb hp
  generalize a % pw n = A at *
  generalize b % pw n = B at *
  generalize hX : sg n A = X at *
  generalize hY : sg n B = Y at *
  have HX := Lib.hid hX; have HY := Lib.hid hY
  clear hX hY
  go_enter Tryd.func17, Tryd.ntmps17
  go_wp2_with fail
  refine (right_c n _ H.out).mono ?_
  rintro e w' ⟨rfl, ⟨d1, rfl⟩⟩
  go_wp2_with fail
  refine (HA.out _).mono ?_
  rintro e w' ⟨rfl, ⟨d2, rfl⟩⟩
  go_wp2_with fail
  refine (HB.out _).mono ?_
  rintro e w' ⟨rfl, ⟨d3, rfl⟩⟩
  go_wp2_with fail
  refine (SA.out _).mono ?_
  rintro e w' ⟨rfl, ⟨d4, rfl⟩⟩
  go_wp2_with fail
  refine (SB.out _).mono ?_
  rintro e w' ⟨rfl, ⟨d5, rfl⟩⟩
  go_wp2_with fail
  refine (DV.out _).mono ?_
  rintro e w' ⟨rfl, ⟨d6, rfl⟩⟩
  go_wp2_with fail
  go_ret2
  exact ⟨rfl, (by repeat (first | exact Below.refl _ _ | apply below_alloc | apply pw_below_drewN | apply below_drew1))⟩
set_option maxHeartbeats 1000000 in
set_option maxRecDepth 100000 in
theorem rb19 (n a b : Int) (w : World) (h : R n) (a0 : 0 ≤ a) (a1 : a < 18446744073709551616) (b0 : 0 ≤ b) (b1 : b < 18446744073709551616) :
    Calls Tryd.prog 17 #[.int .i64 n, .int .i64 19, .int .u64 a, .int .u64 b] w fun e w' => e = .returned (.tuple #[.int .u64 (binI n 19 (a % pw n) (b % pw n)).1, .int .i64 (binI n 19 (a % pw n) (b % pw n)).2]) ∧ Below w.heap.size w w' := by
  have H := Lib.hid h
  have hn : 8 ≤ n ∧ n ≤ 64 := by unfold R at h; omega
  have ca := cut_bounds n a; have cb := cut_bounds n b; have hp := pw_pos n
  have ha := cut_c n a (h := h) (h0 := a0) (h1 := a1); have hb := cut_c n b (h := h) (h0 := b0) (h1 := b1)
  have sa := signed_c n (a % pw n) (h := h) (h0 := ca.1) (h1 := by omega); have sb := signed_c n (b % pw n) (h := h) (h0 := cb.1) (h1 := by omega)
  rw [cut_cut] at sa sb
  have HA := Lib.hid ha; have HB := Lib.hid hb; have SA := Lib.hid sa; have SB := Lib.hid sb
  have dv : ∀ w : World, Calls Tryd.prog 37 #[.int .i64 n, .int .i64 19, .int .u64 (a % pw n), .int .u64 (b % pw n), .int .i64 (sg n (a % pw n)), .int .i64 (sg n (b % pw n))] w fun e w' => e = .returned (.int .u64 (binI n 19 (a % pw n) (b % pw n)).1) ∧ Drawn0 w w' :=
    fun w => bodkinref02_held.calls 103 n 19 _ _ _ _ _ w (rHeld_rest 100 n _ _ (by omega) h ca.1 ca.2 cb.1 cb.2 19 (by omega))
  have DV := Lib.hid dv
  clear dv
  have A0 : 0 ≤ a % pw n := ca.1
  have B0 : 0 ≤ b % pw n := cb.1
  have A1 : a % pw n < 18446744073709551616 := by omega
  have B1 : b % pw n < 18446744073709551616 := by omega
  have CA := Lib.hid ca.2; have CB := Lib.hid cb.2
  clear ha hb sa sb h ca cb hp
  generalize a % pw n = A at *
  generalize b % pw n = B at *
  generalize hX : sg n A = X at *
  generalize hY : sg n B = Y at *
  have HX := Lib.hid hX; have HY := Lib.hid hY
  clear hX hY
  go_enter Tryd.func17, Tryd.ntmps17
  go_wp2_with fail
  refine (right_c n _ H.out).mono ?_
  rintro e w' ⟨rfl, ⟨d1, rfl⟩⟩
  go_wp2_with fail
  refine (HA.out _).mono ?_
  rintro e w' ⟨rfl, ⟨d2, rfl⟩⟩
  go_wp2_with fail
  refine (HB.out _).mono ?_
  rintro e w' ⟨rfl, ⟨d3, rfl⟩⟩
  go_wp2_with fail
  refine (SA.out _).mono ?_
  rintro e w' ⟨rfl, ⟨d4, rfl⟩⟩
  go_wp2_with fail
  refine (SB.out _).mono ?_
  rintro e w' ⟨rfl, ⟨d5, rfl⟩⟩
  go_wp2_with fail
  refine (DV.out _).mono ?_
  rintro e w' ⟨rfl, ⟨d6, rfl⟩⟩
  go_wp2_with fail
  go_ret2
  exact ⟨rfl, (by repeat (first | exact Below.refl _ _ | apply below_alloc | apply pw_below_drewN | apply below_drew1))⟩
set_option maxHeartbeats 1000000 in
set_option maxRecDepth 100000 in
theorem rb20 (n a b : Int) (w : World) (h : R n) (a0 : 0 ≤ a) (a1 : a < 18446744073709551616) (b0 : 0 ≤ b) (b1 : b < 18446744073709551616) :
    Calls Tryd.prog 17 #[.int .i64 n, .int .i64 20, .int .u64 a, .int .u64 b] w fun e w' => e = .returned (.tuple #[.int .u64 (binI n 20 (a % pw n) (b % pw n)).1, .int .i64 (binI n 20 (a % pw n) (b % pw n)).2]) ∧ Below w.heap.size w w' := by
  have H := Lib.hid h
  have hn : 8 ≤ n ∧ n ≤ 64 := by unfold R at h; omega
  have ca := cut_bounds n a; have cb := cut_bounds n b; have hp := pw_pos n
  have ha := cut_c n a (h := h) (h0 := a0) (h1 := a1); have hb := cut_c n b (h := h) (h0 := b0) (h1 := b1)
  have sa := signed_c n (a % pw n) (h := h) (h0 := ca.1) (h1 := by omega); have sb := signed_c n (b % pw n) (h := h) (h0 := cb.1) (h1 := by omega)
  rw [cut_cut] at sa sb
  have HA := Lib.hid ha; have HB := Lib.hid hb; have SA := Lib.hid sa; have SB := Lib.hid sb
  have dv : ∀ w : World, Calls Tryd.prog 37 #[.int .i64 n, .int .i64 20, .int .u64 (a % pw n), .int .u64 (b % pw n), .int .i64 (sg n (a % pw n)), .int .i64 (sg n (b % pw n))] w fun e w' => e = .returned (.int .u64 (binI n 20 (a % pw n) (b % pw n)).1) ∧ Drawn0 w w' :=
    fun w => bodkinref02_held.calls 103 n 20 _ _ _ _ _ w (rHeld_rest 100 n _ _ (by omega) h ca.1 ca.2 cb.1 cb.2 20 (by omega))
  have DV := Lib.hid dv
  clear dv
  have A0 : 0 ≤ a % pw n := ca.1
  have B0 : 0 ≤ b % pw n := cb.1
  have A1 : a % pw n < 18446744073709551616 := by omega
  have B1 : b % pw n < 18446744073709551616 := by omega
  have CA := Lib.hid ca.2; have CB := Lib.hid cb.2
  clear ha hb sa sb h ca cb hp
  generalize a % pw n = A at *
  generalize b % pw n = B at *
  generalize hX : sg n A = X at *
  generalize hY : sg n B = Y at *
  have HX := Lib.hid hX; have HY := Lib.hid hY
  clear hX hY
  go_enter Tryd.func17, Tryd.ntmps17
  go_wp2_with fail
  refine (right_c n _ H.out).mono ?_
  rintro e w' ⟨rfl, ⟨d1, rfl⟩⟩
  go_wp2_with fail
  refine (HA.out _).mono ?_
  rintro e w' ⟨rfl, ⟨d2, rfl⟩⟩
  go_wp2_with fail
  refine (HB.out _).mono ?_
  rintro e w' ⟨rfl, ⟨d3, rfl⟩⟩
  go_wp2_with fail
  refine (SA.out _).mono ?_
  rintro e w' ⟨rfl, ⟨d4, rfl⟩⟩
  go_wp2_with fail
  refine (SB.out _).mono ?_
  rintro e w' ⟨rfl, ⟨d5, rfl⟩⟩
  go_wp2_with fail
  refine (DV.out _).mono ?_
  rintro e w' ⟨rfl, ⟨d6, rfl⟩⟩
  go_wp2_with fail
  go_ret2
  exact ⟨rfl, (by repeat (first | exact Below.refl _ _ | apply below_alloc | apply pw_below_drewN | apply below_drew1))⟩
set_option maxHeartbeats 1000000 in
set_option maxRecDepth 100000 in
theorem rb21 (n a b : Int) (w : World) (h : R n) (a0 : 0 ≤ a) (a1 : a < 18446744073709551616) (b0 : 0 ≤ b) (b1 : b < 18446744073709551616) :
    Calls Tryd.prog 17 #[.int .i64 n, .int .i64 21, .int .u64 a, .int .u64 b] w fun e w' => e = .returned (.tuple #[.int .u64 (binI n 21 (a % pw n) (b % pw n)).1, .int .i64 (binI n 21 (a % pw n) (b % pw n)).2]) ∧ Below w.heap.size w w' := by
  have H := Lib.hid h
  have hn : 8 ≤ n ∧ n ≤ 64 := by unfold R at h; omega
  have ca := cut_bounds n a; have cb := cut_bounds n b; have hp := pw_pos n
  have ha := cut_c n a (h := h) (h0 := a0) (h1 := a1); have hb := cut_c n b (h := h) (h0 := b0) (h1 := b1)
  have sa := signed_c n (a % pw n) (h := h) (h0 := ca.1) (h1 := by omega); have sb := signed_c n (b % pw n) (h := h) (h0 := cb.1) (h1 := by omega)
  rw [cut_cut] at sa sb
  have HA := Lib.hid ha; have HB := Lib.hid hb; have SA := Lib.hid sa; have SB := Lib.hid sb
  have dv : ∀ w : World, Calls Tryd.prog 37 #[.int .i64 n, .int .i64 21, .int .u64 (a % pw n), .int .u64 (b % pw n), .int .i64 (sg n (a % pw n)), .int .i64 (sg n (b % pw n))] w fun e w' => e = .returned (.int .u64 (binI n 21 (a % pw n) (b % pw n)).1) ∧ Drawn0 w w' :=
    fun w => bodkinref02_held.calls 103 n 21 _ _ _ _ _ w (rHeld_rest 100 n _ _ (by omega) h ca.1 ca.2 cb.1 cb.2 21 (by omega))
  have DV := Lib.hid dv
  clear dv
  have A0 : 0 ≤ a % pw n := ca.1
  have B0 : 0 ≤ b % pw n := cb.1
  have A1 : a % pw n < 18446744073709551616 := by omega
  have B1 : b % pw n < 18446744073709551616 := by omega
  have CA := Lib.hid ca.2; have CB := Lib.hid cb.2
  clear ha hb sa sb h ca cb hp
  generalize a % pw n = A at *
  generalize b % pw n = B at *
  generalize hX : sg n A = X at *
  generalize hY : sg n B = Y at *
  have HX := Lib.hid hX; have HY := Lib.hid hY
  clear hX hY
  go_enter Tryd.func17, Tryd.ntmps17
  go_wp2_with fail
  refine (right_c n _ H.out).mono ?_
  rintro e w' ⟨rfl, ⟨d1, rfl⟩⟩
  go_wp2_with fail
  refine (HA.out _).mono ?_
  rintro e w' ⟨rfl, ⟨d2, rfl⟩⟩
  go_wp2_with fail
  refine (HB.out _).mono ?_
  rintro e w' ⟨rfl, ⟨d3, rfl⟩⟩
  go_wp2_with fail
  refine (SA.out _).mono ?_
  rintro e w' ⟨rfl, ⟨d4, rfl⟩⟩
  go_wp2_with fail
  refine (SB.out _).mono ?_
  rintro e w' ⟨rfl, ⟨d5, rfl⟩⟩
  go_wp2_with fail
  refine (DV.out _).mono ?_
  rintro e w' ⟨rfl, ⟨d6, rfl⟩⟩
  go_wp2_with fail
  go_ret2
  exact ⟨rfl, (by repeat (first | exact Below.refl _ _ | apply below_alloc | apply pw_below_drewN | apply below_drew1))⟩
set_option maxHeartbeats 1000000 in
set_option maxRecDepth 100000 in
theorem rb22 (n a b : Int) (w : World) (h : R n) (a0 : 0 ≤ a) (a1 : a < 18446744073709551616) (b0 : 0 ≤ b) (b1 : b < 18446744073709551616) :
    Calls Tryd.prog 17 #[.int .i64 n, .int .i64 22, .int .u64 a, .int .u64 b] w fun e w' => e = .returned (.tuple #[.int .u64 (binI n 22 (a % pw n) (b % pw n)).1, .int .i64 (binI n 22 (a % pw n) (b % pw n)).2]) ∧ Below w.heap.size w w' := by
  have H := Lib.hid h
  have hn : 8 ≤ n ∧ n ≤ 64 := by unfold R at h; omega
  have ca := cut_bounds n a; have cb := cut_bounds n b; have hp := pw_pos n
  have ha := cut_c n a (h := h) (h0 := a0) (h1 := a1); have hb := cut_c n b (h := h) (h0 := b0) (h1 := b1)
  have sa := signed_c n (a % pw n) (h := h) (h0 := ca.1) (h1 := by omega); have sb := signed_c n (b % pw n) (h := h) (h0 := cb.1) (h1 := by omega)
  rw [cut_cut] at sa sb
  have HA := Lib.hid ha; have HB := Lib.hid hb; have SA := Lib.hid sa; have SB := Lib.hid sb
  have dv : ∀ w : World, Calls Tryd.prog 37 #[.int .i64 n, .int .i64 22, .int .u64 (a % pw n), .int .u64 (b % pw n), .int .i64 (sg n (a % pw n)), .int .i64 (sg n (b % pw n))] w fun e w' => e = .returned (.int .u64 (binI n 22 (a % pw n) (b % pw n)).1) ∧ Drawn0 w w' :=
    fun w => bodkinref02_held.calls 103 n 22 _ _ _ _ _ w (rHeld_rest 100 n _ _ (by omega) h ca.1 ca.2 cb.1 cb.2 22 (by omega))
  have DV := Lib.hid dv
  clear dv
  have A0 : 0 ≤ a % pw n := ca.1
  have B0 : 0 ≤ b % pw n := cb.1
  have A1 : a % pw n < 18446744073709551616 := by omega
  have B1 : b % pw n < 18446744073709551616 := by omega
  have CA := Lib.hid ca.2; have CB := Lib.hid cb.2
  clear ha hb sa sb h ca cb hp
  generalize a % pw n = A at *
  generalize b % pw n = B at *
  generalize hX : sg n A = X at *
  generalize hY : sg n B = Y at *
  have HX := Lib.hid hX; have HY := Lib.hid hY
  clear hX hY
  go_enter Tryd.func17, Tryd.ntmps17
  go_wp2_with fail
  refine (right_c n _ H.out).mono ?_
  rintro e w' ⟨rfl, ⟨d1, rfl⟩⟩
  go_wp2_with fail
  refine (HA.out _).mono ?_
  rintro e w' ⟨rfl, ⟨d2, rfl⟩⟩
  go_wp2_with fail
  refine (HB.out _).mono ?_
  rintro e w' ⟨rfl, ⟨d3, rfl⟩⟩
  go_wp2_with fail
  refine (SA.out _).mono ?_
  rintro e w' ⟨rfl, ⟨d4, rfl⟩⟩
  go_wp2_with fail
  refine (SB.out _).mono ?_
  rintro e w' ⟨rfl, ⟨d5, rfl⟩⟩
  go_wp2_with fail
  refine (DV.out _).mono ?_
  rintro e w' ⟨rfl, ⟨d6, rfl⟩⟩
  go_wp2_with fail
  go_ret2
  exact ⟨rfl, (by repeat (first | exact Below.refl _ _ | apply below_alloc | apply pw_below_drewN | apply below_drew1))⟩
set_option maxHeartbeats 1000000 in
set_option maxRecDepth 100000 in
theorem rb23 (n a b : Int) (w : World) (h : R n) (a0 : 0 ≤ a) (a1 : a < 18446744073709551616) (b0 : 0 ≤ b) (b1 : b < 18446744073709551616) :
    Calls Tryd.prog 17 #[.int .i64 n, .int .i64 23, .int .u64 a, .int .u64 b] w fun e w' => e = .returned (.tuple #[.int .u64 (binI n 23 (a % pw n) (b % pw n)).1, .int .i64 (binI n 23 (a % pw n) (b % pw n)).2]) ∧ Below w.heap.size w w' := by
  have H := Lib.hid h
  have hn : 8 ≤ n ∧ n ≤ 64 := by unfold R at h; omega
  have ca := cut_bounds n a; have cb := cut_bounds n b; have hp := pw_pos n
  have ha := cut_c n a (h := h) (h0 := a0) (h1 := a1); have hb := cut_c n b (h := h) (h0 := b0) (h1 := b1)
  have sa := signed_c n (a % pw n) (h := h) (h0 := ca.1) (h1 := by omega); have sb := signed_c n (b % pw n) (h := h) (h0 := cb.1) (h1 := by omega)
  rw [cut_cut] at sa sb
  have HA := Lib.hid ha; have HB := Lib.hid hb; have SA := Lib.hid sa; have SB := Lib.hid sb
  have dv : ∀ w : World, Calls Tryd.prog 37 #[.int .i64 n, .int .i64 23, .int .u64 (a % pw n), .int .u64 (b % pw n), .int .i64 (sg n (a % pw n)), .int .i64 (sg n (b % pw n))] w fun e w' => e = .returned (.int .u64 (binI n 23 (a % pw n) (b % pw n)).1) ∧ Drawn0 w w' :=
    fun w => bodkinref02_held.calls 103 n 23 _ _ _ _ _ w (rHeld_rest 100 n _ _ (by omega) h ca.1 ca.2 cb.1 cb.2 23 (by omega))
  have DV := Lib.hid dv
  clear dv
  have A0 : 0 ≤ a % pw n := ca.1
  have B0 : 0 ≤ b % pw n := cb.1
  have A1 : a % pw n < 18446744073709551616 := by omega
  have B1 : b % pw n < 18446744073709551616 := by omega
  have CA := Lib.hid ca.2; have CB := Lib.hid cb.2
  clear ha hb sa sb h ca cb hp
  generalize a % pw n = A at *
  generalize b % pw n = B at *
  generalize hX : sg n A = X at *
  generalize hY : sg n B = Y at *
  have HX := Lib.hid hX; have HY := Lib.hid hY
  clear hX hY
  go_enter Tryd.func17, Tryd.ntmps17
  go_wp2_with fail
  refine (right_c n _ H.out).mono ?_
  rintro e w' ⟨rfl, ⟨d1, rfl⟩⟩
  go_wp2_with fail
  refine (HA.out _).mono ?_
  rintro e w' ⟨rfl, ⟨d2, rfl⟩⟩
  go_wp2_with fail
  refine (HB.out _).mono ?_
  rintro e w' ⟨rfl, ⟨d3, rfl⟩⟩
  go_wp2_with fail
  refine (SA.out _).mono ?_
  rintro e w' ⟨rfl, ⟨d4, rfl⟩⟩
  go_wp2_with fail
  refine (SB.out _).mono ?_
  rintro e w' ⟨rfl, ⟨d5, rfl⟩⟩
  go_wp2_with fail
  refine (DV.out _).mono ?_
  rintro e w' ⟨rfl, ⟨d6, rfl⟩⟩
  go_wp2_with fail
  go_ret2
  exact ⟨rfl, (by repeat (first | exact Below.refl _ _ | apply below_alloc | apply pw_below_drewN | apply below_drew1))⟩
set_option maxHeartbeats 1000000 in
set_option maxRecDepth 100000 in
theorem rb24 (n a b : Int) (w : World) (h : R n) (a0 : 0 ≤ a) (a1 : a < 18446744073709551616) (b0 : 0 ≤ b) (b1 : b < 18446744073709551616) :
    Calls Tryd.prog 17 #[.int .i64 n, .int .i64 24, .int .u64 a, .int .u64 b] w fun e w' => e = .returned (.tuple #[.int .u64 (binI n 24 (a % pw n) (b % pw n)).1, .int .i64 (binI n 24 (a % pw n) (b % pw n)).2]) ∧ Below w.heap.size w w' := by
  have H := Lib.hid h
  have hn : 8 ≤ n ∧ n ≤ 64 := by unfold R at h; omega
  have ca := cut_bounds n a; have cb := cut_bounds n b; have hp := pw_pos n
  have ha := cut_c n a (h := h) (h0 := a0) (h1 := a1); have hb := cut_c n b (h := h) (h0 := b0) (h1 := b1)
  have sa := signed_c n (a % pw n) (h := h) (h0 := ca.1) (h1 := by omega); have sb := signed_c n (b % pw n) (h := h) (h0 := cb.1) (h1 := by omega)
  rw [cut_cut] at sa sb
  have HA := Lib.hid ha; have HB := Lib.hid hb; have SA := Lib.hid sa; have SB := Lib.hid sb
  have dv : ∀ w : World, Calls Tryd.prog 37 #[.int .i64 n, .int .i64 24, .int .u64 (a % pw n), .int .u64 (b % pw n), .int .i64 (sg n (a % pw n)), .int .i64 (sg n (b % pw n))] w fun e w' => e = .returned (.int .u64 (binI n 24 (a % pw n) (b % pw n)).1) ∧ Drawn0 w w' :=
    fun w => bodkinref02_held.calls 103 n 24 _ _ _ _ _ w (rHeld_rest 100 n _ _ (by omega) h ca.1 ca.2 cb.1 cb.2 24 (by omega))
  have DV := Lib.hid dv
  clear dv
  have A0 : 0 ≤ a % pw n := ca.1
  have B0 : 0 ≤ b % pw n := cb.1
  have A1 : a % pw n < 18446744073709551616 := by omega
  have B1 : b % pw n < 18446744073709551616 := by omega
  have CA := Lib.hid ca.2; have CB := Lib.hid cb.2
  clear ha hb sa sb h ca cb hp
  generalize a % pw n = A at *
  generalize b % pw n = B at *
  generalize hX : sg n A = X at *
  generalize hY : sg n B = Y at *
  have HX := Lib.hid hX; have HY := Lib.hid hY
  clear hX hY
  go_enter Tryd.func17, Tryd.ntmps17
  go_wp2_with fail
  refine (right_c n _ H.out).mono ?_
  rintro e w' ⟨rfl, ⟨d1, rfl⟩⟩
  go_wp2_with fail
  refine (HA.out _).mono ?_
  rintro e w' ⟨rfl, ⟨d2, rfl⟩⟩
  go_wp2_with fail
  refine (HB.out _).mono ?_
  rintro e w' ⟨rfl, ⟨d3, rfl⟩⟩
  go_wp2_with fail
  refine (SA.out _).mono ?_
  rintro e w' ⟨rfl, ⟨d4, rfl⟩⟩
  go_wp2_with fail
  refine (SB.out _).mono ?_
  rintro e w' ⟨rfl, ⟨d5, rfl⟩⟩
  go_wp2_with fail
  refine (DV.out _).mono ?_
  rintro e w' ⟨rfl, ⟨d6, rfl⟩⟩
  go_wp2_with fail
  go_ret2
  exact ⟨rfl, (by repeat (first | exact Below.refl _ _ | apply below_alloc | apply pw_below_drewN | apply below_drew1))⟩
set_option maxHeartbeats 1000000 in
set_option maxRecDepth 100000 in
theorem rb25 (n a b : Int) (w : World) (h : R n) (h16 : n = 16) (a0 : 0 ≤ a) (a1 : a < 18446744073709551616) (b0 : 0 ≤ b) (b1 : b < 18446744073709551616) :
    Calls Tryd.prog 17 #[.int .i64 n, .int .i64 25, .int .u64 a, .int .u64 b] w fun e w' => e = .returned (.tuple #[.int .u64 (binI n 25 (a % pw n) (b % pw n)).1, .int .i64 (binI n 25 (a % pw n) (b % pw n)).2]) ∧ Below w.heap.size w w' := by
  have H := Lib.hid h
  have hn : 8 ≤ n ∧ n ≤ 64 := by unfold R at h; omega
  have ca := cut_bounds n a; have cb := cut_bounds n b; have hp := pw_pos n
  have ha := cut_c n a (h := h) (h0 := a0) (h1 := a1); have hb := cut_c n b (h := h) (h0 := b0) (h1 := b1)
  have sa := signed_c n (a % pw n) (h := h) (h0 := ca.1) (h1 := by omega); have sb := signed_c n (b % pw n) (h := h) (h0 := cb.1) (h1 := by omega)
  rw [cut_cut] at sa sb
  have HA := Lib.hid ha; have HB := Lib.hid hb; have SA := Lib.hid sa; have SB := Lib.hid sb
  have dv : ∀ w : World, Calls Tryd.prog 37 #[.int .i64 n, .int .i64 25, .int .u64 (a % pw n), .int .u64 (b % pw n), .int .i64 (sg n (a % pw n)), .int .i64 (sg n (b % pw n))] w fun e w' => e = .returned (.int .u64 (binI n 25 (a % pw n) (b % pw n)).1) ∧ Drawn0 w w' :=
    fun w => bodkinref02_held.calls 104 n 25 _ _ _ _ _ w (rHeld_q15 100 n _ _ (by omega) h ca.1 ca.2 cb.1 cb.2 h16)
  have DV := Lib.hid dv
  clear dv
  have N16 : (n != 16) = false := by simp [h16]
  have A0 : 0 ≤ a % pw n := ca.1
  have B0 : 0 ≤ b % pw n := cb.1
  have A1 : a % pw n < 18446744073709551616 := by omega
  have B1 : b % pw n < 18446744073709551616 := by omega
  have CA := Lib.hid ca.2; have CB := Lib.hid cb.2
  clear ha hb sa sb h ca cb hp h16
  generalize a % pw n = A at *
  generalize b % pw n = B at *
  generalize hX : sg n A = X at *
  generalize hY : sg n B = Y at *
  have HX := Lib.hid hX; have HY := Lib.hid hY
  clear hX hY
  go_enter Tryd.func17, Tryd.ntmps17
  go_wp2_with fail
  refine (right_c n _ H.out).mono ?_
  rintro e w' ⟨rfl, ⟨d1, rfl⟩⟩
  go_wp2_with fail
  refine (HA.out _).mono ?_
  rintro e w' ⟨rfl, ⟨d2, rfl⟩⟩
  go_wp2_with fail
  refine (HB.out _).mono ?_
  rintro e w' ⟨rfl, ⟨d3, rfl⟩⟩
  go_wp2_with fail
  refine (SA.out _).mono ?_
  rintro e w' ⟨rfl, ⟨d4, rfl⟩⟩
  go_wp2_with fail
  refine (SB.out _).mono ?_
  rintro e w' ⟨rfl, ⟨d5, rfl⟩⟩
  go_wp2_with fail
  refine (DV.out _).mono ?_
  rintro e w' ⟨rfl, ⟨d6, rfl⟩⟩
  go_wp2_with fail
  go_ret2
  exact ⟨rfl, (by repeat (first | exact Below.refl _ _ | apply below_alloc | apply pw_below_drewN | apply below_drew1))⟩
end Go.Proofs.YtajmjmnlapplaaaDoor.RB

namespace Go.Proofs.YtajmjmnlapplaaaDoor.RB
set_option linter.unusedVariables false
set_option linter.unusedSimpArgs false
open Go.RowKit Go.Proofs.YtajmjmnlapplaaaDoor.PInts Go.Proofs.YtajmjmnlapplaaaDoor.Pure Go.Proofs.YtajmjmnlapplaaaDoorW.PrintWords Go.Proofs.YtajmjmnlapplaaaDoorW.PrintLast Go.Proofs.YtajmjmnlapplaaaDoorW.PrintMore
attribute [local go_sem] max2_int min2_int max_two min_two max_three min_three max_four min_four

set_option maxHeartbeats 1000000 in
set_option maxRecDepth 100000 in
theorem rb11 (n a b : Int) (w : World) (h : R n) (a0 : 0 ≤ a) (a1 : a < 18446744073709551616) (b0 : 0 ≤ b) (b1 : b < 18446744073709551616) :
    Calls Tryd.prog 17 #[.int .i64 n, .int .i64 11, .int .u64 a, .int .u64 b] w fun e w' => e = .returned (.tuple #[.int .u64 (binI n 11 (a % pw n) (b % pw n)).1, .int .i64 (binI n 11 (a % pw n) (b % pw n)).2]) ∧ Below w.heap.size w w' := by
  have H := Lib.hid h
  have hn : 8 ≤ n ∧ n ≤ 64 := by unfold R at h; omega
  have ca := cut_bounds n a; have cb := cut_bounds n b; have hp := pw_pos n
  have ha := cut_c n a (h := h) (h0 := a0) (h1 := a1); have hb := cut_c n b (h := h) (h0 := b0) (h1 := b1)
  have sa := signed_c n (a % pw n) (h := h) (h0 := ca.1) (h1 := by omega); have sb := signed_c n (b % pw n) (h := h) (h0 := cb.1) (h1 := by omega)
  rw [cut_cut] at sa sb
  have HA := Lib.hid ha; have HB := Lib.hid hb; have SA := Lib.hid sa; have SB := Lib.hid sb
  have kb : 0 ≤ b % pw n % n ∧ b % pw n % n < n := ⟨Int.emod_nonneg _ (by omega), Int.emod_lt_of_pos _ (by omega)⟩
  have mv : ∀ w : World, Calls Tryd.prog 36 #[.int .i64 n, .int .i64 11, .int .u64 (a % pw n), .int .i64 (wrap64 (b % pw n % n))] w fun e w' => e = .returned (.int .u64 (binI n 11 (a % pw n) (b % pw n)).1) ∧ Below w.heap.size w w' := by
    rw [wr_i (b % pw n % n) (by omega) (by omega)]
    exact fun w => bodkinref02_moved.calls 1000 n 11 _ _ _ w (rMoved n 11 (a % pw n) (b % pw n) h (by omega) ca.1 ca.2 cb.1 cb.2)
  have DV := Lib.hid mv
  clear mv kb
  have A0 : 0 ≤ a % pw n := ca.1
  have B0 : 0 ≤ b % pw n := cb.1
  have A1 : a % pw n < 18446744073709551616 := by omega
  have B1 : b % pw n < 18446744073709551616 := by omega
  have CA := Lib.hid ca.2; have CB := Lib.hid cb.2
  clear ha hb sa sb h ca cb hp
  generalize a % pw n = A at *
  generalize b % pw n = B at *
  generalize hX : sg n A = X at *
  generalize hY : sg n B = Y at *
  have HX := Lib.hid hX; have HY := Lib.hid hY
  clear hX hY
  go_enter Tryd.func17, Tryd.ntmps17
  go_wp2_with fail
  refine (right_c n _ H.out).mono ?_
  rintro e w' ⟨rfl, ⟨d1, rfl⟩⟩
  go_wp2_with fail
  refine (HA.out _).mono ?_
  rintro e w' ⟨rfl, ⟨d2, rfl⟩⟩
  go_wp2_with fail
  refine (HB.out _).mono ?_
  rintro e w' ⟨rfl, ⟨d3, rfl⟩⟩
  go_wp2_with fail
  refine (SA.out _).mono ?_
  rintro e w' ⟨rfl, ⟨d4, rfl⟩⟩
  go_wp2_with fail
  refine (SB.out _).mono ?_
  rintro e w' ⟨rfl, ⟨d5, rfl⟩⟩
  go_wp2_with fail
  refine (DV.out _).mono ?_
  rintro e w' ⟨rfl, hbl⟩
  have hbl := Lib.hid hbl
  go_wp2_with fail
  go_ret2
  exact ⟨rfl, close5 hbl.out⟩
set_option maxHeartbeats 1000000 in
set_option maxRecDepth 100000 in
theorem rb12 (n a b : Int) (w : World) (h : R n) (a0 : 0 ≤ a) (a1 : a < 18446744073709551616) (b0 : 0 ≤ b) (b1 : b < 18446744073709551616) :
    Calls Tryd.prog 17 #[.int .i64 n, .int .i64 12, .int .u64 a, .int .u64 b] w fun e w' => e = .returned (.tuple #[.int .u64 (binI n 12 (a % pw n) (b % pw n)).1, .int .i64 (binI n 12 (a % pw n) (b % pw n)).2]) ∧ Below w.heap.size w w' := by
  have H := Lib.hid h
  have hn : 8 ≤ n ∧ n ≤ 64 := by unfold R at h; omega
  have ca := cut_bounds n a; have cb := cut_bounds n b; have hp := pw_pos n
  have ha := cut_c n a (h := h) (h0 := a0) (h1 := a1); have hb := cut_c n b (h := h) (h0 := b0) (h1 := b1)
  have sa := signed_c n (a % pw n) (h := h) (h0 := ca.1) (h1 := by omega); have sb := signed_c n (b % pw n) (h := h) (h0 := cb.1) (h1 := by omega)
  rw [cut_cut] at sa sb
  have HA := Lib.hid ha; have HB := Lib.hid hb; have SA := Lib.hid sa; have SB := Lib.hid sb
  have kb : 0 ≤ b % pw n % n ∧ b % pw n % n < n := ⟨Int.emod_nonneg _ (by omega), Int.emod_lt_of_pos _ (by omega)⟩
  have mv : ∀ w : World, Calls Tryd.prog 36 #[.int .i64 n, .int .i64 12, .int .u64 (a % pw n), .int .i64 (wrap64 (b % pw n % n))] w fun e w' => e = .returned (.int .u64 (binI n 12 (a % pw n) (b % pw n)).1) ∧ Below w.heap.size w w' := by
    rw [wr_i (b % pw n % n) (by omega) (by omega)]
    exact fun w => bodkinref02_moved.calls 1000 n 12 _ _ _ w (rMoved n 12 (a % pw n) (b % pw n) h (by omega) ca.1 ca.2 cb.1 cb.2)
  have DV := Lib.hid mv
  clear mv kb
  have A0 : 0 ≤ a % pw n := ca.1
  have B0 : 0 ≤ b % pw n := cb.1
  have A1 : a % pw n < 18446744073709551616 := by omega
  have B1 : b % pw n < 18446744073709551616 := by omega
  have CA := Lib.hid ca.2; have CB := Lib.hid cb.2
  clear ha hb sa sb h ca cb hp
  generalize a % pw n = A at *
  generalize b % pw n = B at *
  generalize hX : sg n A = X at *
  generalize hY : sg n B = Y at *
  have HX := Lib.hid hX; have HY := Lib.hid hY
  clear hX hY
  go_enter Tryd.func17, Tryd.ntmps17
  go_wp2_with fail
  refine (right_c n _ H.out).mono ?_
  rintro e w' ⟨rfl, ⟨d1, rfl⟩⟩
  go_wp2_with fail
  refine (HA.out _).mono ?_
  rintro e w' ⟨rfl, ⟨d2, rfl⟩⟩
  go_wp2_with fail
  refine (HB.out _).mono ?_
  rintro e w' ⟨rfl, ⟨d3, rfl⟩⟩
  go_wp2_with fail
  refine (SA.out _).mono ?_
  rintro e w' ⟨rfl, ⟨d4, rfl⟩⟩
  go_wp2_with fail
  refine (SB.out _).mono ?_
  rintro e w' ⟨rfl, ⟨d5, rfl⟩⟩
  go_wp2_with fail
  refine (DV.out _).mono ?_
  rintro e w' ⟨rfl, hbl⟩
  have hbl := Lib.hid hbl
  go_wp2_with fail
  go_ret2
  exact ⟨rfl, close5 hbl.out⟩
set_option maxHeartbeats 1000000 in
set_option maxRecDepth 100000 in
theorem rb13 (n a b : Int) (w : World) (h : R n) (a0 : 0 ≤ a) (a1 : a < 18446744073709551616) (b0 : 0 ≤ b) (b1 : b < 18446744073709551616) :
    Calls Tryd.prog 17 #[.int .i64 n, .int .i64 13, .int .u64 a, .int .u64 b] w fun e w' => e = .returned (.tuple #[.int .u64 (binI n 13 (a % pw n) (b % pw n)).1, .int .i64 (binI n 13 (a % pw n) (b % pw n)).2]) ∧ Below w.heap.size w w' := by
  have H := Lib.hid h
  have hn : 8 ≤ n ∧ n ≤ 64 := by unfold R at h; omega
  have ca := cut_bounds n a; have cb := cut_bounds n b; have hp := pw_pos n
  have ha := cut_c n a (h := h) (h0 := a0) (h1 := a1); have hb := cut_c n b (h := h) (h0 := b0) (h1 := b1)
  have sa := signed_c n (a % pw n) (h := h) (h0 := ca.1) (h1 := by omega); have sb := signed_c n (b % pw n) (h := h) (h0 := cb.1) (h1 := by omega)
  rw [cut_cut] at sa sb
  have HA := Lib.hid ha; have HB := Lib.hid hb; have SA := Lib.hid sa; have SB := Lib.hid sb
  have kb : 0 ≤ b % pw n % n ∧ b % pw n % n < n := ⟨Int.emod_nonneg _ (by omega), Int.emod_lt_of_pos _ (by omega)⟩
  have mv : ∀ w : World, Calls Tryd.prog 36 #[.int .i64 n, .int .i64 13, .int .u64 (a % pw n), .int .i64 (wrap64 (b % pw n % n))] w fun e w' => e = .returned (.int .u64 (binI n 13 (a % pw n) (b % pw n)).1) ∧ Below w.heap.size w w' := by
    rw [wr_i (b % pw n % n) (by omega) (by omega)]
    exact fun w => bodkinref02_moved.calls 1000 n 13 _ _ _ w (rMoved n 13 (a % pw n) (b % pw n) h (by omega) ca.1 ca.2 cb.1 cb.2)
  have DV := Lib.hid mv
  clear mv kb
  have A0 : 0 ≤ a % pw n := ca.1
  have B0 : 0 ≤ b % pw n := cb.1
  have A1 : a % pw n < 18446744073709551616 := by omega
  have B1 : b % pw n < 18446744073709551616 := by omega
  have CA := Lib.hid ca.2; have CB := Lib.hid cb.2
  clear ha hb sa sb h ca cb hp
  generalize a % pw n = A at *
  generalize b % pw n = B at *
  generalize hX : sg n A = X at *
  generalize hY : sg n B = Y at *
  have HX := Lib.hid hX; have HY := Lib.hid hY
  clear hX hY
  go_enter Tryd.func17, Tryd.ntmps17
  go_wp2_with fail
  refine (right_c n _ H.out).mono ?_
  rintro e w' ⟨rfl, ⟨d1, rfl⟩⟩
  go_wp2_with fail
  refine (HA.out _).mono ?_
  rintro e w' ⟨rfl, ⟨d2, rfl⟩⟩
  go_wp2_with fail
  refine (HB.out _).mono ?_
  rintro e w' ⟨rfl, ⟨d3, rfl⟩⟩
  go_wp2_with fail
  refine (SA.out _).mono ?_
  rintro e w' ⟨rfl, ⟨d4, rfl⟩⟩
  go_wp2_with fail
  refine (SB.out _).mono ?_
  rintro e w' ⟨rfl, ⟨d5, rfl⟩⟩
  go_wp2_with fail
  refine (DV.out _).mono ?_
  rintro e w' ⟨rfl, hbl⟩
  have hbl := Lib.hid hbl
  go_wp2_with fail
  go_ret2
  exact ⟨rfl, close5 hbl.out⟩
set_option maxHeartbeats 1000000 in
set_option maxRecDepth 100000 in
theorem rb14 (n a b : Int) (w : World) (h : R n) (a0 : 0 ≤ a) (a1 : a < 18446744073709551616) (b0 : 0 ≤ b) (b1 : b < 18446744073709551616) :
    Calls Tryd.prog 17 #[.int .i64 n, .int .i64 14, .int .u64 a, .int .u64 b] w fun e w' => e = .returned (.tuple #[.int .u64 (binI n 14 (a % pw n) (b % pw n)).1, .int .i64 (binI n 14 (a % pw n) (b % pw n)).2]) ∧ Below w.heap.size w w' := by
  have H := Lib.hid h
  have hn : 8 ≤ n ∧ n ≤ 64 := by unfold R at h; omega
  have ca := cut_bounds n a; have cb := cut_bounds n b; have hp := pw_pos n
  have ha := cut_c n a (h := h) (h0 := a0) (h1 := a1); have hb := cut_c n b (h := h) (h0 := b0) (h1 := b1)
  have sa := signed_c n (a % pw n) (h := h) (h0 := ca.1) (h1 := by omega); have sb := signed_c n (b % pw n) (h := h) (h0 := cb.1) (h1 := by omega)
  rw [cut_cut] at sa sb
  have HA := Lib.hid ha; have HB := Lib.hid hb; have SA := Lib.hid sa; have SB := Lib.hid sb
  have kb : 0 ≤ b % pw n % n ∧ b % pw n % n < n := ⟨Int.emod_nonneg _ (by omega), Int.emod_lt_of_pos _ (by omega)⟩
  have mv : ∀ w : World, Calls Tryd.prog 36 #[.int .i64 n, .int .i64 14, .int .u64 (a % pw n), .int .i64 (wrap64 (b % pw n % n))] w fun e w' => e = .returned (.int .u64 (binI n 14 (a % pw n) (b % pw n)).1) ∧ Below w.heap.size w w' := by
    rw [wr_i (b % pw n % n) (by omega) (by omega)]
    exact fun w => bodkinref02_moved.calls 1000 n 14 _ _ _ w (rMoved n 14 (a % pw n) (b % pw n) h (by omega) ca.1 ca.2 cb.1 cb.2)
  have DV := Lib.hid mv
  clear mv kb
  have A0 : 0 ≤ a % pw n := ca.1
  have B0 : 0 ≤ b % pw n := cb.1
  have A1 : a % pw n < 18446744073709551616 := by omega
  have B1 : b % pw n < 18446744073709551616 := by omega
  have CA := Lib.hid ca.2; have CB := Lib.hid cb.2
  clear ha hb sa sb h ca cb hp
  generalize a % pw n = A at *
  generalize b % pw n = B at *
  generalize hX : sg n A = X at *
  generalize hY : sg n B = Y at *
  have HX := Lib.hid hX; have HY := Lib.hid hY
  clear hX hY
  go_enter Tryd.func17, Tryd.ntmps17
  go_wp2_with fail
  refine (right_c n _ H.out).mono ?_
  rintro e w' ⟨rfl, ⟨d1, rfl⟩⟩
  go_wp2_with fail
  refine (HA.out _).mono ?_
  rintro e w' ⟨rfl, ⟨d2, rfl⟩⟩
  go_wp2_with fail
  refine (HB.out _).mono ?_
  rintro e w' ⟨rfl, ⟨d3, rfl⟩⟩
  go_wp2_with fail
  refine (SA.out _).mono ?_
  rintro e w' ⟨rfl, ⟨d4, rfl⟩⟩
  go_wp2_with fail
  refine (SB.out _).mono ?_
  rintro e w' ⟨rfl, ⟨d5, rfl⟩⟩
  go_wp2_with fail
  refine (DV.out _).mono ?_
  rintro e w' ⟨rfl, hbl⟩
  have hbl := Lib.hid hbl
  go_wp2_with fail
  go_ret2
  exact ⟨rfl, close5 hbl.out⟩
set_option maxHeartbeats 1000000 in
set_option maxRecDepth 100000 in
theorem rb15 (n a b : Int) (w : World) (h : R n) (a0 : 0 ≤ a) (a1 : a < 18446744073709551616) (b0 : 0 ≤ b) (b1 : b < 18446744073709551616) :
    Calls Tryd.prog 17 #[.int .i64 n, .int .i64 15, .int .u64 a, .int .u64 b] w fun e w' => e = .returned (.tuple #[.int .u64 (binI n 15 (a % pw n) (b % pw n)).1, .int .i64 (binI n 15 (a % pw n) (b % pw n)).2]) ∧ Below w.heap.size w w' := by
  have H := Lib.hid h
  have hn : 8 ≤ n ∧ n ≤ 64 := by unfold R at h; omega
  have ca := cut_bounds n a; have cb := cut_bounds n b; have hp := pw_pos n
  have ha := cut_c n a (h := h) (h0 := a0) (h1 := a1); have hb := cut_c n b (h := h) (h0 := b0) (h1 := b1)
  have sa := signed_c n (a % pw n) (h := h) (h0 := ca.1) (h1 := by omega); have sb := signed_c n (b % pw n) (h := h) (h0 := cb.1) (h1 := by omega)
  rw [cut_cut] at sa sb
  have HA := Lib.hid ha; have HB := Lib.hid hb; have SA := Lib.hid sa; have SB := Lib.hid sb
  have kb : 0 ≤ b % pw n % n ∧ b % pw n % n < n := ⟨Int.emod_nonneg _ (by omega), Int.emod_lt_of_pos _ (by omega)⟩
  have mv : ∀ w : World, Calls Tryd.prog 36 #[.int .i64 n, .int .i64 15, .int .u64 (a % pw n), .int .i64 (wrap64 (b % pw n % n))] w fun e w' => e = .returned (.int .u64 (binI n 15 (a % pw n) (b % pw n)).1) ∧ Below w.heap.size w w' := by
    rw [wr_i (b % pw n % n) (by omega) (by omega)]
    exact fun w => bodkinref02_moved.calls 1000 n 15 _ _ _ w (rMoved n 15 (a % pw n) (b % pw n) h (by omega) ca.1 ca.2 cb.1 cb.2)
  have DV := Lib.hid mv
  clear mv kb
  have A0 : 0 ≤ a % pw n := ca.1
  have B0 : 0 ≤ b % pw n := cb.1
  have A1 : a % pw n < 18446744073709551616 := by omega
  have B1 : b % pw n < 18446744073709551616 := by omega
  have CA := Lib.hid ca.2; have CB := Lib.hid cb.2
  clear ha hb sa sb h ca cb hp
  generalize a % pw n = A at *
  generalize b % pw n = B at *
  generalize hX : sg n A = X at *
  generalize hY : sg n B = Y at *
  have HX := Lib.hid hX; have HY := Lib.hid hY
  clear hX hY
  go_enter Tryd.func17, Tryd.ntmps17
  go_wp2_with fail
  refine (right_c n _ H.out).mono ?_
  rintro e w' ⟨rfl, ⟨d1, rfl⟩⟩
  go_wp2_with fail
  refine (HA.out _).mono ?_
  rintro e w' ⟨rfl, ⟨d2, rfl⟩⟩
  go_wp2_with fail
  refine (HB.out _).mono ?_
  rintro e w' ⟨rfl, ⟨d3, rfl⟩⟩
  go_wp2_with fail
  refine (SA.out _).mono ?_
  rintro e w' ⟨rfl, ⟨d4, rfl⟩⟩
  go_wp2_with fail
  refine (SB.out _).mono ?_
  rintro e w' ⟨rfl, ⟨d5, rfl⟩⟩
  go_wp2_with fail
  refine (DV.out _).mono ?_
  rintro e w' ⟨rfl, hbl⟩
  have hbl := Lib.hid hbl
  go_wp2_with fail
  go_ret2
  exact ⟨rfl, close5 hbl.out⟩
end Go.Proofs.YtajmjmnlapplaaaDoor.RB

namespace Go.Proofs.YtajmjmnlapplaaaDoor.RB
set_option linter.unusedVariables false
set_option linter.unusedSimpArgs false
open Go.RowKit Go.Proofs.YtajmjmnlapplaaaDoor.PInts Go.Proofs.YtajmjmnlapplaaaDoor.Pure Go.Proofs.YtajmjmnlapplaaaDoorW.PrintWords Go.Proofs.YtajmjmnlapplaaaDoorW.PrintLast Go.Proofs.YtajmjmnlapplaaaDoorW.PrintMore

def mA (A : Int) (i : Nat) : Int := A * 2 ^ i % 18446744073709551616
def mS (A B : Int) (i : Nat) : Int := A * (B % 2 ^ i) % 18446744073709551616
theorem mA_zero (A : Int) (h0 : 0 ≤ A) (h1 : A < 18446744073709551616) : mA A 0 = A := by unfold mA; simp; omega
theorem mS_zero (A B : Int) : mS A B 0 = 0 := by unfold mS; simp
theorem mA_next (A : Int) (i : Nat) : IntKind.u64.wrap (mA A i * 2) = mA A (i + 1) := by
  unfold mA
  rw [IntKind.wrap_u64, Int.mul_emod, Int.emod_emod, ← Int.mul_emod, Int.pow_succ, ← Int.mul_assoc]
theorem mod_next (B : Int) (i : Nat) : B % 2 ^ (i + 1) = B % 2 ^ i + 2 ^ i * bitAt B i := by
  have hp := two_pos i
  have e1 := Int.mul_ediv_add_emod B (2 ^ i)
  have e2 := Int.mul_ediv_add_emod (B / 2 ^ i) 2
  have r0 := Int.emod_nonneg B (Int.ne_of_gt hp)
  have r1 := Int.emod_lt_of_pos B hp
  have hb := bitAt_range B i
  have hbit : bitAt B i = B / 2 ^ i % 2 := rfl
  have e3 : B = (B % 2 ^ i + 2 ^ i * bitAt B i) + 2 ^ (i + 1) * (B / 2 ^ i / 2) := by
    rw [Int.pow_succ, Int.mul_assoc]
    have : 2 ^ i * (B / 2 ^ i) = 2 ^ i * (2 * (B / 2 ^ i / 2)) + 2 ^ i * bitAt B i := by rw [← Int.mul_add, hbit, e2]
    omega
  have e4 : (B % 2 ^ i + 2 ^ i * bitAt B i + 2 ^ (i + 1) * (B / 2 ^ i / 2)) % 2 ^ (i + 1) = B % 2 ^ i + 2 ^ i * bitAt B i := by
    rw [Int.add_mul_emod_self_left]
    refine Int.emod_eq_of_lt ?_ ?_
    · have := Int.mul_nonneg (Int.le_of_lt hp) hb.1; omega
    · rw [Int.pow_succ]
      have := Int.mul_le_mul_of_nonneg_left hb.2 (Int.le_of_lt hp)
      omega
  exact (congrArg (· % 2 ^ (i + 1)) e3).trans e4
theorem mS_one (A B : Int) (i : Nat) (h : bitAt B i = 1) : IntKind.u64.wrap (mS A B i + mA A i) = mS A B (i + 1) := by
  unfold mS mA
  rw [IntKind.wrap_u64, ← Int.add_emod, mod_next, h, Int.mul_one, Int.mul_add]
theorem mS_same (A B : Int) (i : Nat) (h : bitAt B i = 0) : mS A B i = mS A B (i + 1) := by
  unfold mS
  rw [mod_next, h, Int.mul_zero, Int.add_zero]
theorem mS_last (n A B : Int) (h : R n) (B0 : 0 ≤ B) (B1 : B < pw n) : mS A B n.toNat % pw n = A * B % pw n := by
  unfold mS
  rw [← pw_pow n h, Int.emod_eq_of_lt B0 B1, big_cut n _ h]
theorem mS_range (A B : Int) (i : Nat) : 0 ≤ mS A B i ∧ mS A B i < 18446744073709551616 := by unfold mS; omega
theorem mA_range (A : Int) (i : Nat) : 0 ≤ mA A i ∧ mA A i < 18446744073709551616 := by unfold mA; omega

theorem bit_c (B : Int) (i : Nat) (w : World) (hi : i ≤ 64) (h0 : 0 ≤ B) (h1 : B < 18446744073709551616) : Calls Tryd.prog 32 #[.int .u64 B, .int .i64 (i : Int)] w fun e w' => e = .returned (.int .u64 (bitAt B i)) ∧ Drawn0 w w' :=
  bodkinref02_bit.calls 100 B i _ w (rBit 100 B i (by omega) (by omega) (by omega) h0 h1)

set_option maxHeartbeats 1000000 in
set_option maxRecDepth 100000 in
theorem rb3 (n a b : Int) (w : World) (h : R n) (a0 : 0 ≤ a) (a1 : a < 18446744073709551616) (b0 : 0 ≤ b) (b1 : b < 18446744073709551616) :
    Calls Tryd.prog 17 #[.int .i64 n, .int .i64 3, .int .u64 a, .int .u64 b] w fun e w' => e = .returned (.tuple #[.int .u64 (binI n 3 (a % pw n) (b % pw n)).1, .int .i64 (binI n 3 (a % pw n) (b % pw n)).2]) ∧ Below w.heap.size w w' := by
  have H := Lib.hid h
  have hn : 8 ≤ n ∧ n ≤ 64 := by unfold R at h; omega
  have ca := cut_bounds n a; have cb := cut_bounds n b; have hp := pw_pos n
  have ha := cut_c n a (h := h) (h0 := a0) (h1 := a1); have hb := cut_c n b (h := h) (h0 := b0) (h1 := b1)
  have sa := signed_c n (a % pw n) (h := h) (h0 := ca.1) (h1 := by omega); have sb := signed_c n (b % pw n) (h := h) (h0 := cb.1) (h1 := by omega)
  rw [cut_cut] at sa sb
  have HA := Lib.hid ha; have HB := Lib.hid hb; have SA := Lib.hid sa; have SB := Lib.hid sb
  have A0 : 0 ≤ a % pw n := ca.1
  have B0 : 0 ≤ b % pw n := cb.1
  have A1 : a % pw n < 18446744073709551616 := by omega
  have B1 : b % pw n < 18446744073709551616 := by omega
  have CB := Lib.hid cb.2
  clear ha hb sa sb h ca cb hp
  generalize a % pw n = A at *
  generalize b % pw n = B at *
  have MA := Lib.hid (mA_zero A A0 A1)
  have MS := Lib.hid (mS_zero A B)
  generalize hX : sg n A = X at *
  generalize hY : sg n B = Y at *
  clear hX hY
  go_enter Tryd.func17, Tryd.ntmps17
  go_wp2_with fail
  refine (right_c n _ H.out).mono ?_
  rintro e w' ⟨rfl, ⟨d1, rfl⟩⟩
  go_wp2_with fail
  refine (HA.out _).mono ?_
  rintro e w' ⟨rfl, ⟨d2, rfl⟩⟩
  go_wp2_with fail
  refine (HB.out _).mono ?_
  rintro e w' ⟨rfl, ⟨d3, rfl⟩⟩
  go_wp2_with fail
  refine (SA.out _).mono ?_
  rintro e w' ⟨rfl, ⟨d4, rfl⟩⟩
  go_wp2_with fail
  refine (SB.out _).mono ?_
  rintro e w' ⟨rfl, ⟨d5, rfl⟩⟩
  go_wp2_with fail
  go_loopw [2, 14, 15] (fun v2 v14 v15 wr => ∃ i : Nat, (i : Int) ≤ n ∧ v2 = .int .u64 (mA A i) ∧ v14 = .int .u64 (mS A B i) ∧ v15 = .int .i64 (i : Int) ∧ Aside0 (Drawn0 w wr)) (fun _ _ v15 _ => (n - intOf v15).toNat)
  case atStart => exact ⟨0, by omega, by rw [MA.out], by rw [MS.out], rfl, ⟨⟨_, rfl⟩⟩⟩
  case round =>
    obtain ⟨i, hi, rfl, rfl, rfl, HD⟩ := hrel
    have rS := mS_range A B i
    have rA := mA_range A i
    by_cases hlt : (i : Int) < n
    · have hbr := bitAt_range B i
      have HBit := Lib.hid (bit_c B i (hi := by omega) (h0 := B0) (h1 := B1))
      have N1 := Lib.hid (mA_next A i)
      rcases (show bitAt B i = 0 ∨ bitAt B i = 1 by omega) with hz | hz
      · have N2 := Lib.hid (mS_same A B i hz)
        rw [hz] at HBit
        clear hbr hz
        go_wp2_with fail
        refine (HBit.out _).mono ?_
        rintro e w' ⟨rfl, ⟨d6, rfl⟩⟩
        go_wp2_with fail
        go_roundw
        case rel => exact ⟨i + 1, by omega, by rw [← N1.out], by rw [← N2.out], by go_num, ⟨(HD.out).step d6⟩⟩
        case measure => simp [intOf]; omega
      · have N2 := Lib.hid (mS_one A B i hz)
        rw [hz] at HBit
        clear hbr hz
        go_wp2_with fail
        refine (HBit.out _).mono ?_
        rintro e w' ⟨rfl, ⟨d6, rfl⟩⟩
        go_wp2_with fail
        go_roundw
        case rel => exact ⟨i + 1, by omega, by rw [← N1.out], by rw [← N2.out], by go_num, ⟨(HD.out).step d6⟩⟩
        case measure => simp [intOf]; omega
    · have hin : (i : Int) = n := by omega
      have LAST := Lib.hid (mS_last n A B H.out B0 CB.out)
      have HC := Lib.hid (cut_c n (mS A B i) (h := H.out) (h0 := rS.1) (h1 := rS.2))
      have IN := Lib.hid (show i = n.toNat by omega)
      clear hin
      go_wp2_with fail
      refine (HC.out _).mono ?_
      rintro e w' ⟨rfl, ⟨d6, rfl⟩⟩
      go_wp2_with fail
      go_ret2
      exact ⟨by rw [IN.out, LAST.out]; rfl, ((HD.out).step d6).below⟩
end Go.Proofs.YtajmjmnlapplaaaDoor.RB

namespace Go.Proofs.YtajmjmnlapplaaaDoor.PInts
set_option linter.unusedVariables false
open Go.RowKit Go.Proofs.YtajmjmnlapplaaaDoor.Pure Go.Proofs.YtajmjmnlapplaaaDoor.RB Go.Proofs.YtajmjmnlapplaaaDoorW.PrintWords
instance decOk (n op : Int) : Decidable (Ok n op) := by unfold Ok R; infer_instance
def bodkinref02_Bin.f (a0 : Int) (a1 : Int) (a2 : Int) (a3 : Int) : Option (Int × Int) :=
  if 0 ≤ a2 ∧ a2 < 18446744073709551616 ∧ 0 ≤ a3 ∧ a3 < 18446744073709551616 ∧ ¬ (8 ≤ a1 ∧ a1 ≤ 10) then some (if Ok a0 a1 then binI a0 a1 (a2 % pw a0) (a3 % pw a0) else (0, 1)) else none
theorem bodkinref02_Bin.calls (a0 : Int) (a1 : Int) (a2 : Int) (a3 : Int) (r1 : Int) (r2 : Int) (w : World) (h : bodkinref02_Bin.f a0 a1 a2 a3 = some (r1, r2)) :
    Calls Tryd.prog 17 #[.int .i64 a0, .int .i64 a1, .int .u64 a2, .int .u64 a3] w fun e w' => e = .returned (.tuple #[.int .u64 r1, .int .i64 r2]) ∧ Below w.heap.size w w' := by
  unfold bodkinref02_Bin.f at h
  by_cases hb : 0 ≤ a2 ∧ a2 < 18446744073709551616 ∧ 0 ≤ a3 ∧ a3 < 18446744073709551616 ∧ ¬ (8 ≤ a1 ∧ a1 ≤ 10)
  · rw [if_pos hb] at h
    obtain ⟨h0, h1, h2, h3, hn⟩ := hb
    have h := Option.some.inj h
    by_cases hO : Ok a0 a1
    · rw [if_pos hO] at h
      obtain ⟨e1, e2⟩ : (binI a0 a1 (a2 % pw a0) (a3 % pw a0)).1 = r1 ∧ (binI a0 a1 (a2 % pw a0) (a3 % pw a0)).2 = r2 := by rw [h]; exact ⟨rfl, rfl⟩
      subst e1; subst e2
      obtain ⟨hR, o1, o2, o3⟩ := hO
      have : a1 = 1 ∨ a1 = 2 ∨ a1 = 3 ∨ a1 = 4 ∨ a1 = 5 ∨ a1 = 6 ∨ a1 = 7 ∨ a1 = 8 ∨ a1 = 9 ∨ a1 = 10 ∨ a1 = 11 ∨ a1 = 12 ∨ a1 = 13 ∨ a1 = 14 ∨ a1 = 15 ∨ a1 = 16 ∨ a1 = 17 ∨ a1 = 18 ∨ a1 = 19 ∨ a1 = 20 ∨ a1 = 21 ∨ a1 = 22 ∨ a1 = 23 ∨ a1 = 24 ∨ a1 = 25 := by omega
      rcases this with rfl | rfl | rfl | rfl | rfl | rfl | rfl | rfl | rfl | rfl | rfl | rfl | rfl | rfl | rfl | rfl | rfl | rfl | rfl | rfl | rfl | rfl | rfl | rfl | rfl
      · exact rb1 a0 a2 a3 w hR h0 h1 h2 h3
      · exact rb2 a0 a2 a3 w hR h0 h1 h2 h3
      · exact rb3 a0 a2 a3 w hR h0 h1 h2 h3
      · exact rb4 a0 a2 a3 w hR h0 h1 h2 h3
      · exact rb5 a0 a2 a3 w hR h0 h1 h2 h3
      · exact rb6 a0 a2 a3 w hR h0 h1 h2 h3
      · exact rb7 a0 a2 a3 w hR h0 h1 h2 h3
      · exact absurd hn (by omega)
      · exact absurd hn (by omega)
      · exact absurd hn (by omega)
      · exact rb11 a0 a2 a3 w hR h0 h1 h2 h3
      · exact rb12 a0 a2 a3 w hR h0 h1 h2 h3
      · exact rb13 a0 a2 a3 w hR h0 h1 h2 h3
      · exact rb14 a0 a2 a3 w hR h0 h1 h2 h3
      · exact rb15 a0 a2 a3 w hR h0 h1 h2 h3
      · exact rb16 a0 a2 a3 w hR h0 h1 h2 h3
      · exact rb17 a0 a2 a3 w hR h0 h1 h2 h3
      · exact rb18 a0 a2 a3 w hR h0 h1 h2 h3
      · exact rb19 a0 a2 a3 w hR h0 h1 h2 h3
      · exact rb20 a0 a2 a3 w hR h0 h1 h2 h3
      · exact rb21 a0 a2 a3 w hR h0 h1 h2 h3
      · exact rb22 a0 a2 a3 w hR h0 h1 h2 h3
      · exact rb23 a0 a2 a3 w hR h0 h1 h2 h3
      · exact rb24 a0 a2 a3 w hR h0 h1 h2 h3
      · exact rb25 a0 a2 a3 w hR (o3 rfl) h0 h1 h2 h3
    · rw [if_neg hO] at h
      obtain ⟨e1, e2⟩ : (0 : Int) = r1 ∧ (1 : Int) = r2 := by cases h; exact ⟨rfl, rfl⟩
      subst e1; subst e2
      by_cases hR : R a0
      · by_cases l1 : a1 < 1
        · exact rb_low a0 a1 a2 a3 w hR l1
        by_cases l2 : a1 > 25
        · exact rb_high a0 a1 a2 a3 w hR l2
        have h25 : a1 = 25 ∧ a0 ≠ 16 := Classical.byContradiction fun x => hO ⟨hR, by omega, by omega, fun e => Classical.byContradiction fun y => x ⟨e, y⟩⟩
        obtain ⟨rfl, hne⟩ := h25
        exact rb_odd a0 a2 a3 w hR hne
      · exact rb_wrong a0 a1 a2 a3 w hR
  · rw [if_neg hb] at h
    cases h
theorem bodkinref02_Bin.yes (a0 : Int) (a1 : Int) (a2 : Int) (a3 : Int) (h : Ok a0 a1) (h0 : 0 ≤ a2) (h1 : a2 < 18446744073709551616) (h2 : 0 ≤ a3) (h3 : a3 < 18446744073709551616) (hn : ¬ (8 ≤ a1 ∧ a1 ≤ 10)) : bodkinref02_Bin.f a0 a1 a2 a3 = some (binI a0 a1 (a2 % pw a0) (a3 % pw a0)) := by
  unfold bodkinref02_Bin.f
  rw [if_pos ⟨h0, h1, h2, h3, hn⟩, if_pos h]
theorem bodkinref02_Bin.no (a0 : Int) (a1 : Int) (a2 : Int) (a3 : Int) (h : ¬ Ok a0 a1) (h0 : 0 ≤ a2) (h1 : a2 < 18446744073709551616) (h2 : 0 ≤ a3) (h3 : a3 < 18446744073709551616) (hn : ¬ (8 ≤ a1 ∧ a1 ≤ 10)) : bodkinref02_Bin.f a0 a1 a2 a3 = some (0, 1) := by
  unfold bodkinref02_Bin.f
  rw [if_pos ⟨h0, h1, h2, h3, hn⟩, if_neg h]
end Go.Proofs.YtajmjmnlapplaaaDoor.PInts

namespace Go.Proofs.YtajmjmnlapplaaaDoor.Pure
set_option linter.unusedVariables false
open Go.RowKit Go.Proofs.YtajmjmnlapplaaaDoor.PInts Go.Proofs.YtajmjmnlapplaaaDoorW.PrintWords
theorem ev_then {g f : Nat → Option Bool} {r : Bool} (K : Nat) (h : ∀ k, K ≤ k → g (k + 1) = f k) (e : Ev f r) : Ev g r := by
  obtain ⟨J, hJ⟩ := e
  refine ⟨K + J + 1, fun k hk => ?_⟩
  obtain ⟨k, rfl⟩ : ∃ m, k = m + 1 := ⟨k - 1, by omega⟩
  rw [h k (by omega)]
  exact hJ k (by omega)
theorem agree (n op a b : Int) (a0 : 0 ≤ a) (a1 : a < 18446744073709551616) (b0 : 0 ≤ b) (b1 : b < 18446744073709551616) (hn : ¬ (8 ≤ op ∧ op ≤ 10)) :
    ∃ r, (∀ k, 4 ≤ k → ints_Bin.f k n op a b = some r) ∧ bodkinref02_Bin.f n op a b = some r := by
  by_cases h : Ok n op
  · exact ⟨_, fun k hk => bin_yes k n op a b h a0 a1 b0 b1 hk, bodkinref02_Bin.yes n op a b h a0 a1 b0 b1 hn⟩
  · refine ⟨(0, 1), fun k hk => ?_, bodkinref02_Bin.no n op a b h a0 a1 b0 b1 hn⟩
    obtain ⟨k, rfl⟩ : ∃ m, k = m + 1 := ⟨k - 1, by omega⟩
    exact bin_no k n op a b h
end Go.Proofs.YtajmjmnlapplaaaDoor.Pure
