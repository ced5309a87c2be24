/-
  The walk of the reference's Bin, operation by operation, over the printed contracts of what it calls.
  The walk of the reference's Bin, operation by operation, over the printed contracts of what it calls.
  The walk of the reference's Bin, operation by operation, over the printed contracts of what it calls.
  The walk of the reference's Bin, operation by operation, over the printed contracts of what it calls.
  The walk of the reference's Bin at a product: bit by bit.
  The walk of the reference's Bin at what is done bit by bit: two lists of bits, and a third one.
-/
import Derived.Test.YtajmjmnlapplaaaDoorA2
import Derived.Test.YtajmjmnlapplaaaDoorA3
import Derived.Lib.Hide
import Derived.Outline
import Derived.LoopTactic
namespace Go.Proofs.YtajmjmnlapplaaaDoor.RB
set_option linter.unusedVariables false
set_option linter.unusedSimpArgs false
open Go.RowKit Go.Proofs.YtajmjmnlapplaaaDoor.PInts Go.Proofs.YtajmjmnlapplaaaDoor.Pure Go.Proofs.YtajmjmnlapplaaaDoorW.PrintWords Go.Proofs.YtajmjmnlapplaaaDoorW.PrintLast Go.Proofs.YtajmjmnlapplaaaDoorW.PrintMore
attribute [local go_sem] max2_int min2_int max_two min_two max_three min_three max_four min_four

theorem right_c (n : Int) (w : World) (h : R n) : Calls Tryd.prog 31 #[.int .i64 n] w fun e w' => e = .returned (.bool true) ∧ Drawn0 w w' :=
  bodkinref02_Right.calls n true w (rRight_yes n h)
theorem cut_c (n a : Int) (w : World) (h : R n) (h0 : 0 ≤ a) (h1 : a < 18446744073709551616) : Calls Tryd.prog 24 #[.int .i64 n, .int .u64 a] w fun e w' => e = .returned (.int .u64 (a % pw n)) ∧ Drawn0 w w' :=
  bodkinref02_Cut.calls 100 n a _ w (rCut 100 n a (by omega) h h0 h1)
theorem cut_w (n a : Int) (w : World) (h : R n) : Calls Tryd.prog 24 #[.int .i64 n, .int .u64 (IntKind.u64.wrap a)] w fun e w' => e = .returned (.int .u64 (a % pw n)) ∧ Drawn0 w w' := by
  have hu : 0 ≤ IntKind.u64.wrap a ∧ IntKind.u64.wrap a < 18446744073709551616 := by rw [IntKind.wrap_u64]; omega
  have := cut_c n _ w h hu.1 hu.2
  rw [wrap_cut2 n a h] at this
  exact this
theorem signed_c (n a : Int) (w : World) (h : R n) (h0 : 0 ≤ a) (h1 : a < 18446744073709551616) : Calls Tryd.prog 23 #[.int .i64 n, .int .u64 a] w fun e w' => e = .returned (.int .i64 (sg n (a % pw n))) ∧ Drawn0 w w' :=
  bodkinref02_Signed.calls 100 n a _ w (rSigned 100 n a (by omega) h h0 h1)


set_option maxHeartbeats 1000000 in
set_option maxRecDepth 100000 in
theorem rb_wrong (n op a b : Int) (w : World) (h : ¬ R n) :
    Calls Tryd.prog 17 #[.int .i64 n, .int .i64 op, .int .u64 a, .int .u64 b] w fun e w' => e = .returned (.tuple #[.int .u64 0, .int .i64 1]) ∧ Below w.heap.size w w' := by
  have HR := Lib.hid (rRight_no n h)
  clear h
  go_enter Tryd.func17, Tryd.ntmps17
  go_wp2_with fail
  refine (bodkinref02_Right.calls n false _ HR.out).mono ?_
  rintro e w' ⟨rfl, ⟨d1, rfl⟩⟩
  go_wp2_with fail
  all_goals (first | go_ret2 | skip)
  all_goals exact ⟨rfl, (by repeat (first | exact Below.refl _ _ | apply below_alloc | apply pw_below_drewN | apply below_drew1))⟩
set_option maxHeartbeats 1000000 in
set_option maxRecDepth 100000 in
theorem rb_low (n op a b : Int) (w : World) (h : R n) (ho : op < 1) :
    Calls Tryd.prog 17 #[.int .i64 n, .int .i64 op, .int .u64 a, .int .u64 b] w fun e w' => e = .returned (.tuple #[.int .u64 0, .int .i64 1]) ∧ Below w.heap.size w w' := by
  have H := Lib.hid h
  clear h
  have h1 : decide (op < 1) = true := decide_eq_true ho
  go_enter Tryd.func17, Tryd.ntmps17
  go_wp2_with fail
  refine (right_c n _ H.out).mono ?_
  rintro e w' ⟨rfl, ⟨d1, rfl⟩⟩
  go_wp2_with fail
  all_goals (first | go_ret2 | skip)
  all_goals exact ⟨rfl, (by repeat (first | exact Below.refl _ _ | apply below_alloc | apply pw_below_drewN | apply below_drew1))⟩
set_option maxHeartbeats 1000000 in
set_option maxRecDepth 100000 in
theorem rb_high (n op a b : Int) (w : World) (h : R n) (ho : op > 25) :
    Calls Tryd.prog 17 #[.int .i64 n, .int .i64 op, .int .u64 a, .int .u64 b] w fun e w' => e = .returned (.tuple #[.int .u64 0, .int .i64 1]) ∧ Below w.heap.size w w' := by
  have H := Lib.hid h
  clear h
  have h1 : decide (op < 1) = false := decide_eq_false (by omega)
  have h2 : decide (25 < op) = true := decide_eq_true ho
  go_enter Tryd.func17, Tryd.ntmps17
  go_wp2_with fail
  refine (right_c n _ H.out).mono ?_
  rintro e w' ⟨rfl, ⟨d1, rfl⟩⟩
  go_wp2_with fail
  all_goals (first | go_ret2 | skip)
  all_goals exact ⟨rfl, (by repeat (first | exact Below.refl _ _ | apply below_alloc | apply pw_below_drewN | apply below_drew1))⟩
set_option maxHeartbeats 1000000 in
set_option maxRecDepth 100000 in
theorem rb_odd (n a b : Int) (w : World) (h : R n) (ho : n ≠ 16) :
    Calls Tryd.prog 17 #[.int .i64 n, .int .i64 25, .int .u64 a, .int .u64 b] w fun e w' => e = .returned (.tuple #[.int .u64 0, .int .i64 1]) ∧ Below w.heap.size w w' := by
  have H := Lib.hid h
  clear h
  have h1 : (n != 16) = true := by simp [ho]
  clear ho
  go_enter Tryd.func17, Tryd.ntmps17
  go_wp2_with fail
  refine (right_c n _ H.out).mono ?_
  rintro e w' ⟨rfl, ⟨d1, rfl⟩⟩
  go_wp2_with fail
  all_goals (first | go_ret2 | skip)
  all_goals exact ⟨rfl, (by repeat (first | exact Below.refl _ _ | apply below_alloc | apply pw_below_drewN | apply below_drew1))⟩
theorem close5 {w w' : World} {d : Nat} (h : Below (w.drewN d).heap.size (w.drewN d) w') : Below w.heap.size w w' := by
  refine Below.trans ?_ (h.mono (by simp))
  repeat (first | exact Below.refl _ _ | apply pw_below_drewN)
end Go.Proofs.YtajmjmnlapplaaaDoor.RB

namespace Go.Proofs.YtajmjmnlapplaaaDoor.RB
set_option linter.unusedVariables false
set_option linter.unusedSimpArgs false
open Go.RowKit Go.Proofs.YtajmjmnlapplaaaDoor.PInts Go.Proofs.YtajmjmnlapplaaaDoor.Pure Go.Proofs.YtajmjmnlapplaaaDoorW.PrintWords Go.Proofs.YtajmjmnlapplaaaDoorW.PrintLast Go.Proofs.YtajmjmnlapplaaaDoorW.PrintMore
attribute [local go_sem] max2_int min2_int max_two min_two max_three min_three max_four min_four

set_option maxHeartbeats 1000000 in
set_option maxRecDepth 100000 in
theorem rb1 (n a b : Int) (w : World) (h : R n) (a0 : 0 ≤ a) (a1 : a < 18446744073709551616) (b0 : 0 ≤ b) (b1 : b < 18446744073709551616) :
    Calls Tryd.prog 17 #[.int .i64 n, .int .i64 1, .int .u64 a, .int .u64 b] w fun e w' => e = .returned (.tuple #[.int .u64 (binI n 1 (a % pw n) (b % pw n)).1, .int .i64 (binI n 1 (a % pw n) (b % pw n)).2]) ∧ Below w.heap.size w w' := by
  have H := Lib.hid h
  have hn : 8 ≤ n ∧ n ≤ 64 := by unfold R at h; omega
  have ca := cut_bounds n a; have cb := cut_bounds n b; have hp := pw_pos n
  have ha := cut_c n a (h := h) (h0 := a0) (h1 := a1); have hb := cut_c n b (h := h) (h0 := b0) (h1 := b1)
  have sa := signed_c n (a % pw n) (h := h) (h0 := ca.1) (h1 := by omega); have sb := signed_c n (b % pw n) (h := h) (h0 := cb.1) (h1 := by omega)
  rw [cut_cut] at sa sb
  have HA := Lib.hid ha; have HB := Lib.hid hb; have SA := Lib.hid sa; have SB := Lib.hid sb
  have A0 : 0 ≤ a % pw n := ca.1
  have B0 : 0 ≤ b % pw n := cb.1
  have A1 : a % pw n < 18446744073709551616 := by omega
  have B1 : b % pw n < 18446744073709551616 := by omega
  have CA := Lib.hid ca.2; have CB := Lib.hid cb.2
  clear ha hb sa sb h ca cb hp
  generalize a % pw n = A at *
  generalize b % pw n = B at *
  generalize hX : sg n A = X at *
  generalize hY : sg n B = Y at *
  have HX := Lib.hid hX; have HY := Lib.hid hY
  clear hX hY
  go_enter Tryd.func17, Tryd.ntmps17
  go_wp2_with fail
  refine (right_c n _ H.out).mono ?_
  rintro e w' ⟨rfl, ⟨d1, rfl⟩⟩
  go_wp2_with fail
  refine (HA.out _).mono ?_
  rintro e w' ⟨rfl, ⟨d2, rfl⟩⟩
  go_wp2_with fail
  refine (HB.out _).mono ?_
  rintro e w' ⟨rfl, ⟨d3, rfl⟩⟩
  go_wp2_with fail
  refine (SA.out _).mono ?_
  rintro e w' ⟨rfl, ⟨d4, rfl⟩⟩
  go_wp2_with fail
  refine (SB.out _).mono ?_
  rintro e w' ⟨rfl, ⟨d5, rfl⟩⟩
  go_wp2_with fail
  refine (cut_w n _ _ H.out).mono ?_
  rintro e w' ⟨rfl, ⟨d6, rfl⟩⟩
  go_wp2_with fail
  go_ret2
  exact ⟨rfl, (by repeat (first | exact Below.refl _ _ | apply below_alloc | apply pw_below_drewN | apply below_drew1))⟩
set_option maxHeartbeats 1000000 in
set_option maxRecDepth 100000 in
theorem rb2 (n a b : Int) (w : World) (h : R n) (a0 : 0 ≤ a) (a1 : a < 18446744073709551616) (b0 : 0 ≤ b) (b1 : b < 18446744073709551616) :
    Calls Tryd.prog 17 #[.int .i64 n, .int .i64 2, .int .u64 a, .int .u64 b] w fun e w' => e = .returned (.tuple #[.int .u64 (binI n 2 (a % pw n) (b % pw n)).1, .int .i64 (binI n 2 (a % pw n) (b % pw n)).2]) ∧ Below w.heap.size w w' := by
  have H := Lib.hid h
  have hn : 8 ≤ n ∧ n ≤ 64 := by unfold R at h; omega
  have ca := cut_bounds n a; have cb := cut_bounds n b; have hp := pw_pos n
  have ha := cut_c n a (h := h) (h0 := a0) (h1 := a1); have hb := cut_c n b (h := h) (h0 := b0) (h1 := b1)
  have sa := signed_c n (a % pw n) (h := h) (h0 := ca.1) (h1 := by omega); have sb := signed_c n (b % pw n) (h := h) (h0 := cb.1) (h1 := by omega)
  rw [cut_cut] at sa sb
  have HA := Lib.hid ha; have HB := Lib.hid hb; have SA := Lib.hid sa; have SB := Lib.hid sb
  have A0 : 0 ≤ a % pw n := ca.1
  have B0 : 0 ≤ b % pw n := cb.1
  have A1 : a % pw n < 18446744073709551616 := by omega
  have B1 : b % pw n < 18446744073709551616 := by omega
  have CA := Lib.hid ca.2; have CB := Lib.hid cb.2
  clear ha hb sa sb h ca cb hp
  generalize a % pw n = A at *
  generalize b % pw n = B at *
  generalize hX : sg n A = X at *
  generalize hY : sg n B = Y at *
  have HX := Lib.hid hX; have HY := Lib.hid hY
  clear hX hY
  go_enter Tryd.func17, Tryd.ntmps17
  go_wp2_with fail
  refine (right_c n _ H.out).mono ?_
  rintro e w' ⟨rfl, ⟨d1, rfl⟩⟩
  go_wp2_with fail
  refine (HA.out _).mono ?_
  rintro e w' ⟨rfl, ⟨d2, rfl⟩⟩
  go_wp2_with fail
  refine (HB.out _).mono ?_
  rintro e w' ⟨rfl, ⟨d3, rfl⟩⟩
  go_wp2_with fail
  refine (SA.out _).mono ?_
  rintro e w' ⟨rfl, ⟨d4, rfl⟩⟩
  go_wp2_with fail
  refine (SB.out _).mono ?_
  rintro e w' ⟨rfl, ⟨d5, rfl⟩⟩
  go_wp2_with fail
  refine (cut_w n _ _ H.out).mono ?_
  rintro e w' ⟨rfl, ⟨d6, rfl⟩⟩
  go_wp2_with fail
  go_ret2
  exact ⟨rfl, (by repeat (first | exact Below.refl _ _ | apply below_alloc | apply pw_below_drewN | apply below_drew1))⟩
set_option maxHeartbeats 1000000 in
set_option maxRecDepth 100000 in
theorem rb4 (n a b : Int) (w : World) (h : R n) (a0 : 0 ≤ a) (a1 : a < 18446744073709551616) (b0 : 0 ≤ b) (b1 : b < 18446744073709551616) :
    Calls Tryd.prog 17 #[.int .i64 n, .int .i64 4, .int .u64 a, .int .u64 b] w fun e w' => e = .returned (.tuple #[.int .u64 (binI n 4 (a % pw n) (b % pw n)).1, .int .i64 (binI n 4 (a % pw n) (b % pw n)).2]) ∧ Below w.heap.size w w' := by
  have H := Lib.hid h
  have hn : 8 ≤ n ∧ n ≤ 64 := by unfold R at h; omega
  have ca := cut_bounds n a; have cb := cut_bounds n b; have hp := pw_pos n
  have ha := cut_c n a (h := h) (h0 := a0) (h1 := a1); have hb := cut_c n b (h := h) (h0 := b0) (h1 := b1)
  have sa := signed_c n (a % pw n) (h := h) (h0 := ca.1) (h1 := by omega); have sb := signed_c n (b % pw n) (h := h) (h0 := cb.1) (h1 := by omega)
  rw [cut_cut] at sa sb
  have HA := Lib.hid ha; have HB := Lib.hid hb; have SA := Lib.hid sa; have SB := Lib.hid sb
  have dv : ∀ w : World, Calls Tryd.prog 33 #[.int .i64 n, .int .i64 4, .int .u64 (a % pw n), .int .u64 (b % pw n), .int .i64 (sg n (a % pw n)), .int .i64 (sg n (b % pw n))] w fun e w' => e = .returned (.tuple #[.int .u64 (binI n 4 (a % pw n) (b % pw n)).1, .int .i64 (binI n 4 (a % pw n) (b % pw n)).2]) ∧ Below w.heap.size w w' :=
    fun w => bodkinref02_divided.calls 101 n 4 _ _ _ _ _ _ w (rDivided 100 n 4 _ _ (by omega) h (by omega) ca.1 ca.2 cb.1 cb.2)
  have DV := Lib.hid dv
  clear dv
  have A0 : 0 ≤ a % pw n := ca.1
  have B0 : 0 ≤ b % pw n := cb.1
  have A1 : a % pw n < 18446744073709551616 := by omega
  have B1 : b % pw n < 18446744073709551616 := by omega
  have CA := Lib.hid ca.2; have CB := Lib.hid cb.2
  clear ha hb sa sb h ca cb hp
  generalize a % pw n = A at *
  generalize b % pw n = B at *
  generalize hX : sg n A = X at *
  generalize hY : sg n B = Y at *
  have HX := Lib.hid hX; have HY := Lib.hid hY
  clear hX hY
  go_enter Tryd.func17, Tryd.ntmps17
  go_wp2_with fail
  refine (right_c n _ H.out).mono ?_
  rintro e w' ⟨rfl, ⟨d1, rfl⟩⟩
  go_wp2_with fail
  refine (HA.out _).mono ?_
  rintro e w' ⟨rfl, ⟨d2, rfl⟩⟩
  go_wp2_with fail
  refine (HB.out _).mono ?_
  rintro e w' ⟨rfl, ⟨d3, rfl⟩⟩
  go_wp2_with fail
  refine (SA.out _).mono ?_
  rintro e w' ⟨rfl, ⟨d4, rfl⟩⟩
  go_wp2_with fail
  refine (SB.out _).mono ?_
  rintro e w' ⟨rfl, ⟨d5, rfl⟩⟩
  go_wp2_with fail
  refine (DV.out _).mono ?_
  rintro e w' ⟨rfl, hbl⟩
  have hbl := Lib.hid hbl
  go_wp2_with fail
  go_ret2
  exact ⟨rfl, close5 hbl.out⟩
set_option maxHeartbeats 1000000 in
set_option maxRecDepth 100000 in
theorem rb5 (n a b : Int) (w : World) (h : R n) (a0 : 0 ≤ a) (a1 : a < 18446744073709551616) (b0 : 0 ≤ b) (b1 : b < 18446744073709551616) :
    Calls Tryd.prog 17 #[.int .i64 n, .int .i64 5, .int .u64 a, .int .u64 b] w fun e w' => e = .returned (.tuple #[.int .u64 (binI n 5 (a % pw n) (b % pw n)).1, .int .i64 (binI n 5 (a % pw n) (b % pw n)).2]) ∧ Below w.heap.size w w' := by
  have H := Lib.hid h
  have hn : 8 ≤ n ∧ n ≤ 64 := by unfold R at h; omega
  have ca := cut_bounds n a; have cb := cut_bounds n b; have hp := pw_pos n
  have ha := cut_c n a (h := h) (h0 := a0) (h1 := a1); have hb := cut_c n b (h := h) (h0 := b0) (h1 := b1)
  have sa := signed_c n (a % pw n) (h := h) (h0 := ca.1) (h1 := by omega); have sb := signed_c n (b % pw n) (h := h) (h0 := cb.1) (h1 := by omega)
  rw [cut_cut] at sa sb
  have HA := Lib.hid ha; have HB := Lib.hid hb; have SA := Lib.hid sa; have SB := Lib.hid sb
  have dv : ∀ w : World, Calls Tryd.prog 33 #[.int .i64 n, .int .i64 5, .int .u64 (a % pw n), .int .u64 (b % pw n), .int .i64 (sg n (a % pw n)), .int .i64 (sg n (b % pw n))] w fun e w' => e = .returned (.tuple #[.int .u64 (binI n 5 (a % pw n) (b % pw n)).1, .int .i64 (binI n 5 (a % pw n) (b % pw n)).2]) ∧ Below w.heap.size w w' :=
    fun w => bodkinref02_divided.calls 101 n 5 _ _ _ _ _ _ w (rDivided 100 n 5 _ _ (by omega) h (by omega) ca.1 ca.2 cb.1 cb.2)
  have DV := Lib.hid dv
  clear dv
  have A0 : 0 ≤ a % pw n := ca.1
  have B0 : 0 ≤ b % pw n := cb.1
  have A1 : a % pw n < 18446744073709551616 := by omega
  have B1 : b % pw n < 18446744073709551616 := by omega
  have CA := Lib.hid ca.2; have CB := Lib.hid cb.2
  clear ha hb sa sb h ca cb hp
  generalize a % pw n = A at *
  generalize b % pw n = B at *
  generalize hX : sg n A = X at *
  generalize hY : sg n B = Y at *
  have HX := Lib.hid hX; have HY := Lib.hid hY
  clear hX hY
  go_enter Tryd.func17, Tryd.ntmps17
  go_wp2_with fail
  refine (right_c n _ H.out).mono ?_
  rintro e w' ⟨rfl, ⟨d1, rfl⟩⟩
  go_wp2_with fail
  refine (HA.out _).mono ?_
  rintro e w' ⟨rfl, ⟨d2, rfl⟩⟩
  go_wp2_with fail
  refine (HB.out _).mono ?_
  rintro e w' ⟨rfl, ⟨d3, rfl⟩⟩
  go_wp2_with fail
  refine (SA.out _).mono ?_
  rintro e w' ⟨rfl, ⟨d4, rfl⟩⟩
  go_wp2_with fail
  refine (SB.out _).mono ?_
  rintro e w' ⟨rfl, ⟨d5, rfl⟩⟩
  go_wp2_with fail
  refine (DV.out _).mono ?_
  rintro e w' ⟨rfl, hbl⟩
  have hbl := Lib.hid hbl
  go_wp2_with fail
  go_ret2
  exact ⟨rfl, close5 hbl.out⟩
set_option maxHeartbeats 1000000 in
set_option maxRecDepth 100000 in
theorem rb6 (n a b : Int) (w : World) (h : R n) (a0 : 0 ≤ a) (a1 : a < 18446744073709551616) (b0 : 0 ≤ b) (b1 : b < 18446744073709551616) :
    Calls Tryd.prog 17 #[.int .i64 n, .int .i64 6, .int .u64 a, .int .u64 b] w fun e w' => e = .returned (.tuple #[.int .u64 (binI n 6 (a % pw n) (b % pw n)).1, .int .i64 (binI n 6 (a % pw n) (b % pw n)).2]) ∧ Below w.heap.size w w' := by
  have H := Lib.hid h
  have hn : 8 ≤ n ∧ n ≤ 64 := by unfold R at h; omega
  have ca := cut_bounds n a; have cb := cut_bounds n b; have hp := pw_pos n
  have ha := cut_c n a (h := h) (h0 := a0) (h1 := a1); have hb := cut_c n b (h := h) (h0 := b0) (h1 := b1)
  have sa := signed_c n (a % pw n) (h := h) (h0 := ca.1) (h1 := by omega); have sb := signed_c n (b % pw n) (h := h) (h0 := cb.1) (h1 := by omega)
  rw [cut_cut] at sa sb
  have HA := Lib.hid ha; have HB := Lib.hid hb; have SA := Lib.hid sa; have SB := Lib.hid sb
  have dv : ∀ w : World, Calls Tryd.prog 33 #[.int .i64 n, .int .i64 6, .int .u64 (a % pw n), .int .u64 (b % pw n), .int .i64 (sg n (a % pw n)), .int .i64 (sg n (b % pw n))] w fun e w' => e = .returned (.tuple #[.int .u64 (binI n 6 (a % pw n) (b % pw n)).1, .int .i64 (binI n 6 (a % pw n) (b % pw n)).2]) ∧ Below w.heap.size w w' :=
    fun w => bodkinref02_divided.calls 101 n 6 _ _ _ _ _ _ w (rDivided 100 n 6 _ _ (by omega) h (by omega) ca.1 ca.2 cb.1 cb.2)
  have DV := Lib.hid dv
  clear dv
  have A0 : 0 ≤ a % pw n := ca.1
  have B0 : 0 ≤ b % pw n := cb.1
  have A1 : a % pw n < 18446744073709551616 := by omega
  have B1 : b % pw n < 18446744073709551616 := by omega
  have CA := Lib.hid ca.2; have CB := Lib.hid cb.2
  clear ha hb sa sb h ca cb hp
  generalize a % pw n = A at *
  generalize b % pw n = B at *
  generalize hX : sg n A = X at *
  generalize hY : sg n B = Y at *
  have HX := Lib.hid hX; have HY := Lib.hid hY
  clear hX hY
  go_enter Tryd.func17, Tryd.ntmps17
  go_wp2_with fail
  refine (right_c n _ H.out).mono ?_
  rintro e w' ⟨rfl, ⟨d1, rfl⟩⟩
  go_wp2_with fail
  refine (HA.out _).mono ?_
  rintro e w' ⟨rfl, ⟨d2, rfl⟩⟩
  go_wp2_with fail
  refine (HB.out _).mono ?_
  rintro e w' ⟨rfl, ⟨d3, rfl⟩⟩
  go_wp2_with fail
  refine (SA.out _).mono ?_
  rintro e w' ⟨rfl, ⟨d4, rfl⟩⟩
  go_wp2_with fail
  refine (SB.out _).mono ?_
  rintro e w' ⟨rfl, ⟨d5, rfl⟩⟩
  go_wp2_with fail
  refine (DV.out _).mono ?_
  rintro e w' ⟨rfl, hbl⟩
  have hbl := Lib.hid hbl
  go_wp2_with fail
  go_ret2
  exact ⟨rfl, close5 hbl.out⟩
set_option maxHeartbeats 1000000 in
set_option maxRecDepth 100000 in
theorem rb7 (n a b : Int) (w : World) (h : R n) (a0 : 0 ≤ a) (a1 : a < 18446744073709551616) (b0 : 0 ≤ b) (b1 : b < 18446744073709551616) :
    Calls Tryd.prog 17 #[.int .i64 n, .int .i64 7, .int .u64 a, .int .u64 b] w fun e w' => e = .returned (.tuple #[.int .u64 (binI n 7 (a % pw n) (b % pw n)).1, .int .i64 (binI n 7 (a % pw n) (b % pw n)).2]) ∧ Below w.heap.size w w' := by
  have H := Lib.hid h
  have hn : 8 ≤ n ∧ n ≤ 64 := by unfold R at h; omega
  have ca := cut_bounds n a; have cb := cut_bounds n b; have hp := pw_pos n
  have ha := cut_c n a (h := h) (h0 := a0) (h1 := a1); have hb := cut_c n b (h := h) (h0 := b0) (h1 := b1)
  have sa := signed_c n (a % pw n) (h := h) (h0 := ca.1) (h1 := by omega); have sb := signed_c n (b % pw n) (h := h) (h0 := cb.1) (h1 := by omega)
  rw [cut_cut] at sa sb
  have HA := Lib.hid ha; have HB := Lib.hid hb; have SA := Lib.hid sa; have SB := Lib.hid sb
  have dv : ∀ w : World, Calls Tryd.prog 33 #[.int .i64 n, .int .i64 7, .int .u64 (a % pw n), .int .u64 (b % pw n), .int .i64 (sg n (a % pw n)), .int .i64 (sg n (b % pw n))] w fun e w' => e = .returned (.tuple #[.int .u64 (binI n 7 (a % pw n) (b % pw n)).1, .int .i64 (binI n 7 (a % pw n) (b % pw n)).2]) ∧ Below w.heap.size w w' :=
    fun w => bodkinref02_divided.calls 101 n 7 _ _ _ _ _ _ w (rDivided 100 n 7 _ _ (by omega) h (by omega) ca.1 ca.2 cb.1 cb.2)
  have DV := Lib.hid dv
  clear dv
  have A0 : 0 ≤ a % pw n := ca.1
  have B0 : 0 ≤ b % pw n := cb.1
  have A1 : a % pw n < 18446744073709551616 := by omega
  have B1 : b % pw n < 18446744073709551616 := by omega
  have CA := Lib.hid ca.2; have CB := Lib.hid cb.2
  clear ha hb sa sb h ca cb hp
  generalize a % pw n = A at *
  generalize b % pw n = B at *
  generalize hX : sg n A = X at *
  generalize hY : sg n B = Y at *
  have HX := Lib.hid hX; have HY := Lib.hid hY
  clear hX hY
  go_enter Tryd.func17, Tryd.ntmps17
  go_wp2_with fail
  refine (right_c n _ H.out).mono ?_
  rintro e w' ⟨rfl, ⟨d1, rfl⟩⟩
  go_wp2_with fail
  refine (HA.out _).mono ?_
  rintro e w' ⟨rfl, ⟨d2, rfl⟩⟩
  go_wp2_with fail
  refine (HB.out _).mono ?_
  rintro e w' ⟨rfl, ⟨d3, rfl⟩⟩
  go_wp2_with fail
  refine (SA.out _).mono ?_
  rintro e w' ⟨rfl, ⟨d4, rfl⟩⟩
  go_wp2_with fail
  refine (SB.out _).mono ?_
  rintro e w' ⟨rfl, ⟨d5, rfl⟩⟩
  go_wp2_with fail
  refine (DV.out _).mono ?_
  rintro e w' ⟨rfl, hbl⟩
  have hbl := Lib.hid hbl
  go_wp2_with fail
  go_ret2
  exact ⟨rfl, close5 hbl.out⟩
end Go.Proofs.YtajmjmnlapplaaaDoor.RB

namespace Go.Proofs.YtajmjmnlapplaaaDoor.RB
set_option linter.unusedVariables false
set_option linter.unusedSimpArgs false
open Go.RowKit Go.Proofs.YtajmjmnlapplaaaDoor.PInts Go.Proofs.YtajmjmnlapplaaaDoor.Pure Go.Proofs.YtajmjmnlapplaaaDoorW.PrintWords Go.Proofs.YtajmjmnlapplaaaDoorW.PrintLast Go.Proofs.YtajmjmnlapplaaaDoorW.PrintMore
attribute [local go_sem] max2_int min2_int max_two min_two max_three min_three max_four min_four

set_option maxHeartbeats 1000000 in
set_option maxRecDepth 100000 in
theorem rb16 (n a b : Int) (w : World) (h : R n) (a0 : 0 ≤ a) (a1 : a < 18446744073709551616) (b0 : 0 ≤ b) (b1 : b < 18446744073709551616) :
    Calls Tryd.prog 17 #[.int .i64 n, .int .i64 16, .int .u64 a, .int .u64 b] w fun e w' => e = .returned (.tuple #[.int .u64 (binI n 16 (a % pw n) (b % pw n)).1, .int .i64 (binI n 16 (a % pw n) (b % pw n)).2]) ∧ Below w.heap.size w w' := by
  have H := Lib.hid h
  have hn : 8 ≤ n ∧ n ≤ 64 := by unfold R at h; omega
  have ca := cut_bounds n a; have cb := cut_bounds n b; have hp := pw_pos n
  have ha := cut_c n a (h := h) (h0 := a0) (h1 := a1); have hb := cut_c n b (h := h) (h0 := b0) (h1 := b1)
  have sa := signed_c n (a % pw n) (h := h) (h0 := ca.1) (h1 := by omega); have sb := signed_c n (b % pw n) (h := h) (h0 := cb.1) (h1 := by omega)
  rw [cut_cut] at sa sb
  have HA := Lib.hid ha; have HB := Lib.hid hb; have SA := Lib.hid sa; have SB := Lib.hid sb
  have dv : ∀ w : World, Calls Tryd.prog 37 #[.int .i64 n, .int .i64 16, .int .u64 (a % pw n), .int .u64 (b % pw n), .int .i64 (sg n (a % pw n)), .int .i64 (sg n (b % pw n))] w fun e w' => e = .returned (.int .u64 (binI n 16 (a % pw n) (b % pw n)).1) ∧ Drawn0 w w' :=
    fun w => bodkinref02_held.calls 103 n 16 _ _ _ _ _ w (rHeld_sat 100 n _ _ (by omega) h ca.1 ca.2 cb.1 cb.2 16 (by omega))
  have DV := Lib.hid dv
  clear dv
  have A0 : 0 ≤ a % pw n := ca.1
  have B0 : 0 ≤ b % pw n := cb.1
  have A1 : a % pw n < 18446744073709551616 := by omega
  have B1 : b % pw n < 18446744073709551616 := by omega
  have CA := Lib.hid ca.2; have CB := Lib.hid cb.2
  clear ha hb sa sb h ca cb hp
  generalize a % pw n = A at *
  generalize b % pw n = B at *
  generalize hX : sg n A = X at *
  generalize hY : sg n B = Y at *
  have HX := Lib.hid hX; have HY := Lib.hid hY
  clear hX hY
  go_enter Tryd.func17, Tryd.ntmps17
  go_wp2_with fail
  refine (right_c n _ H.out).mono ?_
  rintro e w' ⟨rfl, ⟨d1, rfl⟩⟩
  go_wp2_with fail
  refine (HA.out _).mono ?_
  rintro e w' ⟨rfl, ⟨d2, rfl⟩⟩
  go_wp2_with fail
  refine (HB.out _).mono ?_
  rintro e w' ⟨rfl, ⟨d3, rfl⟩⟩
  go_wp2_with fail
  refine (SA.out _).mono ?_
  rintro e w' ⟨rfl, ⟨d4, rfl⟩⟩
  go_wp2_with fail
  refine (SB.out _).mono ?_
  rintro e w' ⟨rfl, ⟨d5, rfl⟩⟩
  go_wp2_with fail
  refine (DV.out _).mono ?_
  rintro e w' ⟨rfl, ⟨d6, rfl⟩⟩
  go_wp2_with fail
  go_ret2
  exact ⟨rfl, (by repeat (first | exact Below.refl _ _ | apply below_alloc | apply pw_below_drewN | apply below_drew1))⟩
set_option maxHeartbeats 1000000 in
set_option maxRecDepth 100000 in
theorem rb17 (n a b : Int) (w : World) (h : R n) (a0 : 0 ≤ a) (a1 : a < 18446744073709551616) (b0 : 0 ≤ b) (b1 : b < 18446744073709551616) :
    Calls Tryd.prog 17 #[.int .i64 n, .int .i64 17, .int .u64 a, .int .u64 b] w fun e w' => e = .returned (.tuple #[.int .u64 (binI n 17 (a % pw n) (b % pw n)).1, .int .i64 (binI n 17 (a % pw n) (b % pw n)).2]) ∧ Below w.heap.size w w' := by
  have H := Lib.hid h
  have hn : 8 ≤ n ∧ n ≤ 64 := by unfold R at h; omega
  have ca := cut_bounds n a; have cb := cut_bounds n b; have hp := pw_pos n
  have ha := cut_c n a (h := h) (h0 := a0) (h1 := a1); have hb := cut_c n b (h := h) (h0 := b0) (h1 := b1)
  have sa := signed_c n (a % pw n) (h := h) (h0 := ca.1) (h1 := by omega); have sb := signed_c n (b % pw n) (h := h) (h0 := cb.1) (h1 := by omega)
  rw [cut_cut] at sa sb
  have HA := Lib.hid ha; have HB := Lib.hid hb; have SA := Lib.hid sa; have SB := Lib.hid sb
  have dv : ∀ w : World, Calls Tryd.prog 37 #[.int .i64 n, .int .i64 17, .int .u64 (a % pw n), .int .u64 (b % pw n), .int .i64 (sg n (a % pw n)), .int .i64 (sg n (b % pw n))] w fun e w' => e = .returned (.int .u64 (binI n 17 (a % pw n) (b % pw n)).1) ∧ Drawn0 w w' :=
    fun w => bodkinref02_held.calls 103 n 17 _ _ _ _ _ w (rHeld_rest 100 n _ _ (by omega) h ca.1 ca.2 cb.1 cb.2 17 (by omega))
  have DV := Lib.hid dv
  clear dv
  have A0 : 0 ≤ a % pw n := ca.1
  have B0 : 0 ≤ b % pw n := cb.1
  have A1 : a % pw n < 18446744073709551616 := by omega
  have B1 : b % pw n < 18446744073709551616 := by omega
  have CA := Lib.hid ca.2; have CB := Lib.hid cb.2
  clear ha hb sa sb h ca cb hp
  generalize a % pw n = A at *
  generalize b % pw n = B at *
  generalize hX : sg n A = X at *
  generalize hY : sg n B = Y at *
  have HX := Lib.hid hX; have HY := Lib.hid hY
  clear hX hY
  go_enter Tryd.func17, Tryd.ntmps17
  go_wp2_with fail
  refine (right_c n _ H.out).mono ?_
  rintro e w' ⟨rfl, ⟨d1, rfl⟩⟩
  go_wp2_with fail
  refine (HA.out _).mono ?_
  rintro e w' ⟨rfl, ⟨d2, rfl⟩⟩
  go_wp2_with fail
  refine (HB.out _).mono ?_
  rintro e w' ⟨rfl, ⟨d3, rfl⟩⟩
  go_wp2_with fail
  refine (SA.out _).mono ?_
  rintro e w' ⟨rfl, ⟨d4, rfl⟩⟩
  go_wp2_with fail
  refine (SB.out _).mono ?_
  rintro e w' ⟨rfl, ⟨d5, rfl⟩⟩
  go_wp2_with fail
  refine (DV.out _).mono ?_
  rintro e w' ⟨rfl, ⟨d6, rfl⟩⟩
  go_wp2_with fail
  go_ret2
  exact ⟨rfl, (by repeat (first | exact Below.refl _ _ | apply below_alloc | apply pw_below_drewN | apply below_drew1))⟩
set_option maxHeartbeats 1000000 in
set_option maxRecDepth 100000 in
theorem rb18 (n a b : Int) (w : World) (h : R n) (a0 : 0 ≤ a) (a1 : a < 18446744073709551616) (b0 : 0 ≤ b) (b1 : b < 18446744073709551616) :
    Calls Tryd.prog 17 #[.int .i64 n, .int .i64 18, .int .u64 a, .int .u64 b] w fun e w' => e = .returned (.tuple #[.int .u64 (binI n 18 (a % pw n) (b % pw n)).1, .int .i64 (binI n 18 (a % pw n) (b % pw n)).2]) ∧ Below w.heap.size w w' := by
  have H := Lib.hid h
  have hn : 8 ≤ n ∧ n ≤ 64 := by unfold R at h; omega
  have ca := cut_bounds n a; have cb := cut_bounds n b; have hp := pw_pos n
  have ha := cut_c n a (h := h) (h0 := a0) (h1 := a1); have hb := cut_c n b (h := h) (h0 := b0) (h1 := b1)
  have sa := signed_c n (a % pw n) (h := h) (h0 := ca.1) (h1 := by omega); have sb := signed_c n (b % pw n) (h := h) (h0 := cb.1) (h1 := by omega)
  rw [cut_cut] at sa sb
  have HA := Lib.hid ha; have HB := Lib.hid hb; have SA := Lib.hid sa; have SB := Lib.hid sb
  have dv : ∀ w : World, Calls Tryd.prog 37 #[.int .i64 n, .int .i64 18, .int .u64 (a % pw n), .int .u64 (b % pw n), .int .i64 (sg n (a % pw n)), .int .i64 (sg n (b % pw n))] w fun e w' => e = .returned (.int .u64 (binI n 18 (a % pw n) (b % pw n)).1) ∧ Drawn0 w w' :=
    fun w => bodkinref02_held.calls 103 n 18 _ _ _ _ _ w (rHeld_sat 100 n _ _ (by omega) h ca.1 ca.2 cb.1 cb.2 18 (by omega))
  have DV := Lib.hid dv
  clear dv
  have A0 : 0 ≤ a % pw n := ca.1
  have B0 : 0 ≤ b % pw n := cb.1
  have A1 : a % pw n < 18446744073709551616 := by omega
  have B1 : b % pw n < 18446744073709551616 := by omega
  have CA := Lib.hid ca.2; have CB := Lib.hid cb.2
  clear ha hb sa sb h ca cb hp
  generalize a % pw n = A at *
  generalize b % pw n = B at *
  generalize hX : sg n A = X at *
  generalize hY : sg n B = Y at *
  have HX := Lib.hid hX; have HY := Lib.hid hY
  clear hX hY
  go_enter Tryd.func17, Tryd.ntmps17
  go_wp2_with fail
  refine (right_c n _ H.out).mono ?_
  rintro e w' ⟨rfl, ⟨d1, rfl⟩⟩
  go_wp2_with fail
  refine (HA.out _).mono ?_
  rintro e w' ⟨rfl, ⟨d2, rfl⟩⟩
  go_wp2_with fail
  refine (HB.out _).mono ?_
  rintro e w' ⟨rfl, ⟨d3, rfl⟩⟩
  go_wp2_with fail
  refine (SA.out _).mono ?_
  rintro e w' ⟨rfl, ⟨d4, rfl⟩⟩
  go_wp2_with fail
  refine (SB.out _).mono ?_
  rintro e w' ⟨rfl, ⟨d5, rfl⟩⟩
  go_wp2_with fail
  refine (DV.out _).mono ?_
  rintro e w' ⟨rfl, ⟨d6, rfl⟩⟩
  go_wp2_with fail
  go_ret2
  exact ⟨rfl, (by repeat (first | exact Below.refl _ _ | apply below_alloc | apply pw_below_drewN | apply below_drew1))⟩
set_option maxHeartbeats 1000000 in
set_option maxRecDepth 100000 in
theorem rb19 (n a b : Int) (w : World) (h : R n) (a0 : 0 ≤ a) (a1 : a < 18446744073709551616) (b0 : 0 ≤ b) (b1 : b < 18446744073709551616) :
    Calls Tryd.prog 17 #[.int .i64 n, .int .i64 19, .int .u64 a, .int .u64 b] w fun e w' => e = .returned (.tuple #[.int .u64 (binI n 19 (a % pw n) (b % pw n)).1, .int .i64 (binI n 19 (a % pw n) (b % pw n)).2]) ∧ Below w.heap.size w w' := by
  have H := Lib.hid h
  have hn : 8 ≤ n ∧ n ≤ 64 := by unfold R at h; omega
  have ca := cut_bounds n a; have cb := cut_bounds n b; have hp := pw_pos n
  have ha := cut_c n a (h := h) (h0 := a0) (h1 := a1); have hb := cut_c n b (h := h) (h0 := b0) (h1 := b1)
  have sa := signed_c n (a % pw n) (h := h) (h0 := ca.1) (h1 := by omega); have sb := signed_c n (b % pw n) (h := h) (h0 := cb.1) (h1 := by omega)
  rw [cut_cut] at sa sb
  have HA := Lib.hid ha; have HB := Lib.hid hb; have SA := Lib.hid sa; have SB := Lib.hid sb
  have dv : ∀ w : World, Calls Tryd.prog 37 #[.int .i64 n, .int .i64 19, .int .u64 (a % pw n), .int .u64 (b % pw n), .int .i64 (sg n (a % pw n)), .int .i64 (sg n (b % pw n))] w fun e w' => e = .returned (.int .u64 (binI n 19 (a % pw n) (b % pw n)).1) ∧ Drawn0 w w' :=
    fun w => bodkinref02_held.calls 103 n 19 _ _ _ _ _ w (rHeld_rest 100 n _ _ (by omega) h ca.1 ca.2 cb.1 cb.2 19 (by omega))
  have DV := Lib.hid dv
  clear dv
  have A0 : 0 ≤ a % pw n := ca.1
  have B0 : 0 ≤ b % pw n := cb.1
  have A1 : a % pw n < 18446744073709551616 := by omega
  have B1 : b % pw n < 18446744073709551616 := by omega
  have CA := Lib.hid ca.2; have CB := Lib.hid cb.2
  clear ha hb sa sb h ca cb hp
  generalize a % pw n = A at *
  generalize b % pw n = B at *
  generalize hX : sg n A = X at *
  generalize hY : sg n B = Y at *
  have HX := Lib.hid hX; have HY := Lib.hid hY
  clear hX hY
  go_enter Tryd.func17, Tryd.ntmps17
  go_wp2_with fail
  refine (right_c n _ H.out).mono ?_
  rintro e w' ⟨rfl, ⟨d1, rfl⟩⟩
  go_wp2_with fail
  refine (HA.out _).mono ?_
  rintro e w' ⟨rfl, ⟨d2, rfl⟩⟩
  go_wp2_with fail
  refine (HB.out _).mono ?_
  rintro e w' ⟨rfl, ⟨d3, rfl⟩⟩
  go_wp2_with fail
  refine (SA.out _).mono ?_
  rintro e w' ⟨rfl, ⟨d4, rfl⟩⟩
  go_wp2_with fail
  refine (SB.out _).mono ?_
  rintro e w' ⟨rfl, ⟨d5, rfl⟩⟩
  go_wp2_with fail
  refine (DV.out _).mono ?_
  rintro e w' ⟨rfl, ⟨d6, rfl⟩⟩
  go_wp2_with fail
  go_ret2
  exact ⟨rfl, (by repeat (first | exact Below.refl _ _ | apply below_alloc | apply pw_below_drewN | apply below_drew1))⟩
set_option maxHeartbeats 1000000 in
set_option maxRecDepth 100000 in
theorem rb20 (n a b : Int) (w : World) (h : R n) (a0 : 0 ≤ a) (a1 : a < 18446744073709551616) (b0 : 0 ≤ b) (b1 : b < 18446744073709551616) :
    Calls Tryd.prog 17 #[.int .i64 n, .int .i64 20, .int .u64 a, .int .u64 b] w fun e w' => e = .returned (.tuple #[.int .u64 (binI n 20 (a % pw n) (b % pw n)).1, .int .i64 (binI n 20 (a % pw n) (b % pw n)).2]) ∧ Below w.heap.size w w' := by
  have H := Lib.hid h
  have hn : 8 ≤ n ∧ n ≤ 64 := by unfold R at h; omega
  have ca := cut_bounds n a; have cb := cut_bounds n b; have hp := pw_pos n
  have ha := cut_c n a (h := h) (h0 := a0) (h1 := a1); have hb := cut_c n b (h := h) (h0 := b0) (h1 := b1)
  have sa := signed_c n (a % pw n) (h := h) (h0 := ca.1) (h1 := by omega); have sb := signed_c n (b % pw n) (h := h) (h0 := cb.1) (h1 := by omega)
  rw [cut_cut] at sa sb
  have HA := Lib.hid ha; have HB := Lib.hid hb; have SA := Lib.hid sa; have SB := Lib.hid sb
  have dv : ∀ w : World, Calls Tryd.prog 37 #[.int .i64 n, .int .i64 20, .int .u64 (a % pw n), .int .u64 (b % pw n), .int .i64 (sg n (a % pw n)), .int .i64 (sg n (b % pw n))] w fun e w' => e = .returned (.int .u64 (binI n 20 (a % pw n) (b % pw n)).1) ∧ Drawn0 w w' :=
    fun w => bodkinref02_held.calls 103 n 20 _ _ _ _ _ w (rHeld_rest 100 n _ _ (by omega) h ca.1 ca.2 cb.1 cb.2 20 (by omega))
  have DV := Lib.hid dv
  clear dv
  have A0 : 0 ≤ a % pw n := ca.1
  have B0 : 0 ≤ b % pw n := cb.1
  have A1 : a % pw n < 18446744073709551616 := by omega
  have B1 : b % pw n < 18446744073709551616 := by omega
  have CA := Lib.hid ca.2; have CB := Lib.hid cb.2
  clear ha hb sa sb h ca cb hp
  generalize a % pw n = A at *
  generalize b % pw n = B at *
  generalize hX : sg n A = X at *
  generalize hY : sg n B = Y at *
  have HX := Lib.hid hX; have HY := Lib.hid hY
  clear hX hY
  go_enter Tryd.func17, Tryd.ntmps17
  go_wp2_with fail
  refine (right_c n _ H.out).mono ?_
  rintro e w' ⟨rfl, ⟨d1, rfl⟩⟩
  go_wp2_with fail
  refine (HA.out _).mono ?_
  rintro e w' ⟨rfl, ⟨d2, rfl⟩⟩
  go_wp2_with fail
  refine (HB.out _).mono ?_
  rintro e w' ⟨rfl, ⟨d3, rfl⟩⟩
  go_wp2_with fail
  refine (SA.out _).mono ?_
  rintro e w' ⟨rfl, ⟨d4, rfl⟩⟩
  go_wp2_with fail
  refine (SB.out _).mono ?_
  rintro e w' ⟨rfl, ⟨d5, rfl⟩⟩
  go_wp2_with fail
  refine (DV.out _).mono ?_
  rintro e w' ⟨rfl, ⟨d6, rfl⟩⟩
  go_wp2_with fail
  go_ret2
  exact ⟨rfl, (by repeat (first | exact Below.refl _ _ | apply below_alloc | apply pw_below_drewN | apply below_drew1))⟩
set_option maxHeartbeats 1000000 in
set_option maxRecDepth 100000 in
theorem rb21 (n a b : Int) (w : World) (h : R n) (a0 : 0 ≤ a) (a1 : a < 18446744073709551616) (b0 : 0 ≤ b) (b1 : b < 18446744073709551616) :
    Calls Tryd.prog 17 #[.int .i64 n, .int .i64 21, .int .u64 a, .int .u64 b] w fun e w' => e = .returned (.tuple #[.int .u64 (binI n 21 (a % pw n) (b % pw n)).1, .int .i64 (binI n 21 (a % pw n) (b % pw n)).2]) ∧ Below w.heap.size w w' := by
  have H := Lib.hid h
  have hn : 8 ≤ n ∧ n ≤ 64 := by unfold R at h; omega
  have ca := cut_bounds n a; have cb := cut_bounds n b; have hp := pw_pos n
  have ha := cut_c n a (h := h) (h0 := a0) (h1 := a1); have hb := cut_c n b (h := h) (h0 := b0) (h1 := b1)
  have sa := signed_c n (a % pw n) (h := h) (h0 := ca.1) (h1 := by omega); have sb := signed_c n (b % pw n) (h := h) (h0 := cb.1) (h1 := by omega)
  rw [cut_cut] at sa sb
  have HA := Lib.hid ha; have HB := Lib.hid hb; have SA := Lib.hid sa; have SB := Lib.hid sb
  have dv : ∀ w : World, Calls Tryd.prog 37 #[.int .i64 n, .int .i64 21, .int .u64 (a % pw n), .int .u64 (b % pw n), .int .i64 (sg n (a % pw n)), .int .i64 (sg n (b % pw n))] w fun e w' => e = .returned (.int .u64 (binI n 21 (a % pw n) (b % pw n)).1) ∧ Drawn0 w w' :=
    fun w => bodkinref02_held.calls 103 n 21 _ _ _ _ _ w (rHeld_rest 100 n _ _ (by omega) h ca.1 ca.2 cb.1 cb.2 21 (by omega))
  have DV := Lib.hid dv
  clear dv
  have A0 : 0 ≤ a % pw n := ca.1
  have B0 : 0 ≤ b % pw n := cb.1
  have A1 : a % pw n < 18446744073709551616 := by omega
  have B1 : b % pw n < 18446744073709551616 := by omega
  have CA := Lib.hid ca.2; have CB := Lib.hid cb.2
  clear ha hb sa sb h ca cb hp
  generalize a % pw n = A at *
  generalize b % pw n = B at *
  generalize hX : sg n A = X at *
  generalize hY : sg n B = Y at *
  have HX := Lib.hid hX; have HY := Lib.hid hY
  clear hX hY
  go_enter Tryd.func17, Tryd.ntmps17
  go_wp2_with fail
  refine (right_c n _ H.out).mono ?_
  rintro e w' ⟨rfl, ⟨d1, rfl⟩⟩
  go_wp2_with fail
  refine (HA.out _).mono ?_
  rintro e w' ⟨rfl, ⟨d2, rfl⟩⟩
  go_wp2_with fail
  refine (HB.out _).mono ?_
  rintro e w' ⟨rfl, ⟨d3, rfl⟩⟩
  go_wp2_with fail
  refine (SA.out _).mono ?_
  rintro e w' ⟨rfl, ⟨d4, rfl⟩⟩
  go_wp2_with fail
  refine (SB.out _).mono ?_
  rintro e w' ⟨rfl, ⟨d5, rfl⟩⟩
  go_wp2_with fail
  refine (DV.out _).mono ?_
  rintro e w' ⟨rfl, ⟨d6, rfl⟩⟩
  go_wp2_with fail
  go_ret2
  exact ⟨rfl, (by repeat (first | exact Below.refl _ _ | apply below_alloc | apply pw_below_drewN | apply below_drew1))⟩
set_option maxHeartbeats 1000000 in
set_option maxRecDepth 100000 in
theorem rb22 (n a b : Int) (w : World) (h : R n) (a0 : 0 ≤ a) (a1 : a < 18446744073709551616) (b0 : 0 ≤ b) (b1 : b < 18446744073709551616) :
    Calls Tryd.prog 17 #[.int .i64 n, .int .i64 22, .int .u64 a, .int .u64 b] w fun e w' => e = .returned (.tuple #[.int .u64 (binI n 22 (a % pw n) (b % pw n)).1, .int .i64 (binI n 22 (a % pw n) (b % pw n)).2]) ∧ Below w.heap.size w w' := by
  have H := Lib.hid h
  have hn : 8 ≤ n ∧ n ≤ 64 := by unfold R at h; omega
  have ca := cut_bounds n a; have cb := cut_bounds n b; have hp := pw_pos n
  have ha := cut_c n a (h := h) (h0 := a0) (h1 := a1); have hb := cut_c n b (h := h) (h0 := b0) (h1 := b1)
  have sa := signed_c n (a % pw n) (h := h) (h0 := ca.1) (h1 := by omega); have sb := signed_c n (b % pw n) (h := h) (h0 := cb.1) (h1 := by omega)
  rw [cut_cut] at sa sb
  have HA := Lib.hid ha; have HB := Lib.hid hb; have SA := Lib.hid sa; have SB := Lib.hid sb
  have dv : ∀ w : World, Calls Tryd.prog 37 #[.int .i64 n, .int .i64 22, .int .u64 (a % pw n), .int .u64 (b % pw n), .int .i64 (sg n (a % pw n)), .int .i64 (sg n (b % pw n))] w fun e w' => e = .returned (.int .u64 (binI n 22 (a % pw n) (b % pw n)).1) ∧ Drawn0 w w' :=
    fun w => bodkinref02_held.calls 103 n 22 _ _ _ _ _ w (rHeld_rest 100 n _ _ (by omega) h ca.1 ca.2 cb.1 cb.2 22 (by omega))
  have DV := Lib.hid dv
  clear dv
  have A0 : 0 ≤ a % pw n := ca.1
  have B0 : 0 ≤ b % pw n := cb.1
  have A1 : a % pw n < 18446744073709551616 := by omega
  have B1 : b % pw n < 18446744073709551616 := by omega
  have CA := Lib.hid ca.2; have CB := Lib.hid cb.2
  clear ha hb sa sb h ca cb hp
  generalize a % pw n = A at *
  generalize b % pw n = B at *
  generalize hX : sg n A = X at *
  generalize hY : sg n B = Y at *
  have HX := Lib.hid hX; have HY := Lib.hid hY
  clear hX hY
  go_enter Tryd.func17, Tryd.ntmps17
  go_wp2_with fail
  refine (right_c n _ H.out).mono ?_
  rintro e w' ⟨rfl, ⟨d1, rfl⟩⟩
  go_wp2_with fail
  refine (HA.out _).mono ?_
  rintro e w' ⟨rfl, ⟨d2, rfl⟩⟩
  go_wp2_with fail
  refine (HB.out _).mono ?_
  rintro e w' ⟨rfl, ⟨d3, rfl⟩⟩
  go_wp2_with fail
  refine (SA.out _).mono ?_
  rintro e w' ⟨rfl, ⟨d4, rfl⟩⟩
  go_wp2_with fail
  refine (SB.out _).mono ?_
  rintro e w' ⟨rfl, ⟨d5, rfl⟩⟩
  go_wp2_with fail
  refine (DV.out _).mono ?_
  rintro e w' ⟨rfl, ⟨d6, rfl⟩⟩
  go_wp2_with fail
  go_ret2
  exact ⟨rfl, (by repeat (first | exact Below.refl _ _ | apply below_alloc | apply pw_below_drewN | apply below_drew1))⟩
set_option maxHeartbeats 1000000 in
set_option maxRecDepth 100000 in
theorem rb23 (n a b : Int) (w : World) (h : R n) (a0 : 0 ≤ a) (a1 : a < 18446744073709551616) (b0 : 0 ≤ b) (b1 : b < 18446744073709551616) :
    Calls Tryd.prog 17 #[.int .i64 n, .int .i64 23, .int .u64 a, .int .u64 b] w fun e w' => e = .returned (.tuple #[.int .u64 (binI n 23 (a % pw n) (b % pw n)).1, .int .i64 (binI n 23 (a % pw n) (b % pw n)).2]) ∧ Below w.heap.size w w' := by
  have H := Lib.hid h
  have hn : 8 ≤ n ∧ n ≤ 64 := by unfold R at h; omega
  have ca := cut_bounds n a; have cb := cut_bounds n b; have hp := pw_pos n
  have ha := cut_c n a (h := h) (h0 := a0) (h1 := a1); have hb := cut_c n b (h := h) (h0 := b0) (h1 := b1)
  have sa := signed_c n (a % pw n) (h := h) (h0 := ca.1) (h1 := by omega); have sb := signed_c n (b % pw n) (h := h) (h0 := cb.1) (h1 := by omega)
  rw [cut_cut] at sa sb
  have HA := Lib.hid ha; have HB := Lib.hid hb; have SA := Lib.hid sa; have SB := Lib.hid sb
  have dv : ∀ w : World, Calls Tryd.prog 37 #[.int .i64 n, .int .i64 23, .int .u64 (a % pw n), .int .u64 (b % pw n), .int .i64 (sg n (a % pw n)), .int .i64 (sg n (b % pw n))] w fun e w' => e = .returned (.int .u64 (binI n 23 (a % pw n) (b % pw n)).1) ∧ Drawn0 w w' :=
    fun w => bodkinref02_held.calls 103 n 23 _ _ _ _ _ w (rHeld_rest 100 n _ _ (by omega) h ca.1 ca.2 cb.1 cb.2 23 (by omega))
  have DV := Lib.hid dv
  clear dv
  have A0 : 0 ≤ a % pw n := ca.1
  have B0 : 0 ≤ b % pw n := cb.1
  have A1 : a % pw n < 18446744073709551616 := by omega
  have B1 : b % pw n < 18446744073709551616 := by omega
  have CA := Lib.hid ca.2; have CB := Lib.hid cb.2
  clear ha hb sa sb h ca cb hp
  generalize a % pw n = A at *
  generalize b % pw n = B at *
  generalize hX : sg n A = X at *
  generalize hY : sg n B = Y at *
  have HX := Lib.hid hX; have HY := Lib.hid hY
  clear hX hY
  go_enter Tryd.func17, Tryd.ntmps17
  go_wp2_with fail
  refine (right_c n _ H.out).mono ?_
  rintro e w' ⟨rfl, ⟨d1, rfl⟩⟩
  go_wp2_with fail
  refine (HA.out _).mono ?_
  rintro e w' ⟨rfl, ⟨d2, rfl⟩⟩
  go_wp2_with fail
  refine (HB.out _).mono ?_
  rintro e w' ⟨rfl, ⟨d3, rfl⟩⟩
  go_wp2_with fail
  refine (SA.out _).mono ?_
  rintro e w' ⟨rfl, ⟨d4, rfl⟩⟩
  go_wp2_with fail
  refine (SB.out _).mono ?_
  rintro e w' ⟨rfl, ⟨d5, rfl⟩⟩
  go_wp2_with fail
  refine (DV.out _).mono ?_
  rintro e w' ⟨rfl, ⟨d6, rfl⟩⟩
  go_wp2_with fail
  go_ret2
  exact ⟨rfl, (by repeat (first | exact Below.refl _ _ | apply below_alloc | apply pw_below_drewN | apply below_drew1))⟩
set_option maxHeartbeats 1000000 in
set_option maxRecDepth 100000 in
theorem rb24 (n a b : Int) (w : World) (h : R n) (a0 : 0 ≤ a) (a1 : a < 18446744073709551616) (b0 : 0 ≤ b) (b1 : b < 18446744073709551616) :
    Calls Tryd.prog 17 #[.int .i64 n, .int .i64 24, .int .u64 a, .int .u64 b] w fun e w' => e = .returned (.tuple #[.int .u64 (binI n 24 (a % pw n) (b % pw n)).1, .int .i64 (binI n 24 (a % pw n) (b % pw n)).2]) ∧ Below w.heap.size w w' := by
  have H := Lib.hid h
  have hn : 8 ≤ n ∧ n ≤ 64 := by unfold R at h; omega
  have ca := cut_bounds n a; have cb := cut_bounds n b; have hp := pw_pos n
  have ha := cut_c n a (h := h) (h0 := a0) (h1 := a1); have hb := cut_c n b (h := h) (h0 := b0) (h1 := b1)
  have sa := signed_c n (a % pw n) (h := h) (h0 := ca.1) (h1 := by omega); have sb := signed_c n (b % pw n) (h := h) (h0 := cb.1) (h1 := by omega)
  rw [cut_cut] at sa sb
  have HA := Lib.hid ha; have HB := Lib.hid hb; have SA := Lib.hid sa; have SB := Lib.hid sb
  have dv : ∀ w : World, Calls Tryd.prog 37 #[.int .i64 n, .int .i64 24, .int .u64 (a % pw n), .int .u64 (b % pw n), .int .i64 (sg n (a % pw n)), .int .i64 (sg n (b % pw n))] w fun e w' => e = .returned (.int .u64 (binI n 24 (a % pw n) (b % pw n)).1) ∧ Drawn0 w w' :=
    fun w => bodkinref02_held.calls 103 n 24 _ _ _ _ _ w (rHeld_rest 100 n _ _ (by omega) h ca.1 ca.2 cb.1 cb.2 24 (by omega))
  have DV := Lib.hid dv
  clear dv
  have A0 : 0 ≤ a % pw n := ca.1
  have B0 : 0 ≤ b % pw n := cb.1
  have A1 : a % pw n < 18446744073709551616 := by omega
  have B1 : b % pw n < 18446744073709551616 := by omega
  have CA := Lib.hid ca.2; have CB := Lib.hid cb.2
  clear ha hb sa sb h ca cb hp
  generalize a % pw n = A at *
  generalize b % pw n = B at *
  generalize hX : sg n A = X at *
  generalize hY : sg n B = Y at *
  have HX := Lib.hid hX; have HY := Lib.hid hY
  clear hX hY
  go_enter Tryd.func17, Tryd.ntmps17
  go_wp2_with fail
  refine (right_c n _ H.out).mono ?_
  rintro e w' ⟨rfl, ⟨d1, rfl⟩⟩
  go_wp2_with fail
  refine (HA.out _).mono ?_
  rintro e w' ⟨rfl, ⟨d2, rfl⟩⟩
  go_wp2_with fail
  refine (HB.out _).mono ?_
  rintro e w' ⟨rfl, ⟨d3, rfl⟩⟩
  go_wp2_with fail
  refine (SA.out _).mono ?_
  rintro e w' ⟨rfl, ⟨d4, rfl⟩⟩
  go_wp2_with fail
  refine (SB.out _).mono ?_
  rintro e w' ⟨rfl, ⟨d5, rfl⟩⟩
  go_wp2_with fail
  refine (DV.out _).mono ?_
  rintro e w' ⟨rfl, ⟨d6, rfl⟩⟩
  go_wp2_with fail
  go_ret2
  exact ⟨rfl, (by repeat (first | exact Below.refl _ _ | apply below_alloc | apply pw_below_drewN | apply below_drew1))⟩
set_option maxHeartbeats 1000000 in
set_option maxRecDepth 100000 in
theorem rb25 (n a b : Int) (w : World) (h : R n) (h16 : n = 16) (a0 : 0 ≤ a) (a1 : a < 18446744073709551616) (b0 : 0 ≤ b) (b1 : b < 18446744073709551616) :
    Calls Tryd.prog 17 #[.int .i64 n, .int .i64 25, .int .u64 a, .int .u64 b] w fun e w' => e = .returned (.tuple #[.int .u64 (binI n 25 (a % pw n) (b % pw n)).1, .int .i64 (binI n 25 (a % pw n) (b % pw n)).2]) ∧ Below w.heap.size w w' := by
  have H := Lib.hid h
  have hn : 8 ≤ n ∧ n ≤ 64 := by unfold R at h; omega
  have ca := cut_bounds n a; have cb := cut_bounds n b; have hp := pw_pos n
  have ha := cut_c n a (h := h) (h0 := a0) (h1 := a1); have hb := cut_c n b (h := h) (h0 := b0) (h1 := b1)
  have sa := signed_c n (a % pw n) (h := h) (h0 := ca.1) (h1 := by omega); have sb := signed_c n (b % pw n) (h := h) (h0 := cb.1) (h1 := by omega)
  rw [cut_cut] at sa sb
  have HA := Lib.hid ha; have HB := Lib.hid hb; have SA := Lib.hid sa; have SB := Lib.hid sb
  have dv : ∀ w : World, Calls Tryd.prog 37 #[.int .i64 n, .int .i64 25, .int .u64 (a % pw n), .int .u64 (b % pw n), .int .i64 (sg n (a % pw n)), .int .i64 (sg n (b % pw n))] w fun e w' => e = .returned (.int .u64 (binI n 25 (a % pw n) (b % pw n)).1) ∧ Drawn0 w w' :=
    fun w => bodkinref02_held.calls 104 n 25 _ _ _ _ _ w (rHeld_q15 100 n _ _ (by omega) h ca.1 ca.2 cb.1 cb.2 h16)
  have DV := Lib.hid dv
  clear dv
  have N16 : (n != 16) = false := by simp [h16]
  have A0 : 0 ≤ a % pw n := ca.1
  have B0 : 0 ≤ b % pw n := cb.1
  have A1 : a % pw n < 18446744073709551616 := by omega
  have B1 : b % pw n < 18446744073709551616 := by omega
  have CA := Lib.hid ca.2; have CB := Lib.hid cb.2
  clear ha hb sa sb h ca cb hp h16
  generalize a % pw n = A at *
  generalize b % pw n = B at *
  generalize hX : sg n A = X at *
  generalize hY : sg n B = Y at *
  have HX := Lib.hid hX; have HY := Lib.hid hY
  clear hX hY
  go_enter Tryd.func17, Tryd.ntmps17
  go_wp2_with fail
  refine (right_c n _ H.out).mono ?_
  rintro e w' ⟨rfl, ⟨d1, rfl⟩⟩
  go_wp2_with fail
  refine (HA.out _).mono ?_
  rintro e w' ⟨rfl, ⟨d2, rfl⟩⟩
  go_wp2_with fail
  refine (HB.out _).mono ?_
  rintro e w' ⟨rfl, ⟨d3, rfl⟩⟩
  go_wp2_with fail
  refine (SA.out _).mono ?_
  rintro e w' ⟨rfl, ⟨d4, rfl⟩⟩
  go_wp2_with fail
  refine (SB.out _).mono ?_
  rintro e w' ⟨rfl, ⟨d5, rfl⟩⟩
  go_wp2_with fail
  refine (DV.out _).mono ?_
  rintro e w' ⟨rfl, ⟨d6, rfl⟩⟩
  go_wp2_with fail
  go_ret2
  exact ⟨rfl, (by repeat (first | exact Below.refl _ _ | apply below_alloc | apply pw_below_drewN | apply below_drew1))⟩
end Go.Proofs.YtajmjmnlapplaaaDoor.RB

namespace Go.Proofs.YtajmjmnlapplaaaDoor.RB
set_option linter.unusedVariables false
set_option linter.unusedSimpArgs false
open Go.RowKit Go.Proofs.YtajmjmnlapplaaaDoor.PInts Go.Proofs.YtajmjmnlapplaaaDoor.Pure Go.Proofs.YtajmjmnlapplaaaDoorW.PrintWords Go.Proofs.YtajmjmnlapplaaaDoorW.PrintLast Go.Proofs.YtajmjmnlapplaaaDoorW.PrintMore
attribute [local go_sem] max2_int min2_int max_two min_two max_three min_three max_four min_four

set_option maxHeartbeats 1000000 in
set_option maxRecDepth 100000 in
theorem rb11 (n a b : Int) (w : World) (h : R n) (a0 : 0 ≤ a) (a1 : a < 18446744073709551616) (b0 : 0 ≤ b) (b1 : b < 18446744073709551616) :
    Calls Tryd.prog 17 #[.int .i64 n, .int .i64 11, .int .u64 a, .int .u64 b] w fun e w' => e = .returned (.tuple #[.int .u64 (binI n 11 (a % pw n) (b % pw n)).1, .int .i64 (binI n 11 (a % pw n) (b % pw n)).2]) ∧ Below w.heap.size w w' := by
  have H := Lib.hid h
  have hn : 8 ≤ n ∧ n ≤ 64 := by unfold R at h; omega
  have ca := cut_bounds n a; have cb := cut_bounds n b; have hp := pw_pos n
  have ha := cut_c n a (h := h) (h0 := a0) (h1 := a1); have hb := cut_c n b (h := h) (h0 := b0) (h1 := b1)
  have sa := signed_c n (a % pw n) (h := h) (h0 := ca.1) (h1 := by omega); have sb := signed_c n (b % pw n) (h := h) (h0 := cb.1) (h1 := by omega)
  rw [cut_cut] at sa sb
  have HA := Lib.hid ha; have HB := Lib.hid hb; have SA := Lib.hid sa; have SB := Lib.hid sb
  have kb : 0 ≤ b % pw n % n ∧ b % pw n % n < n := ⟨Int.emod_nonneg _ (by omega), Int.emod_lt_of_pos _ (by omega)⟩
  have mv : ∀ w : World, Calls Tryd.prog 36 #[.int .i64 n, .int .i64 11, .int .u64 (a % pw n), .int .i64 (wrap64 (b % pw n % n))] w fun e w' => e = .returned (.int .u64 (binI n 11 (a % pw n) (b % pw n)).1) ∧ Below w.heap.size w w' := by
    rw [wr_i (b % pw n % n) (by omega) (by omega)]
    exact fun w => bodkinref02_moved.calls 1000 n 11 _ _ _ w (rMoved n 11 (a % pw n) (b % pw n) h (by omega) ca.1 ca.2 cb.1 cb.2)
  have DV := Lib.hid mv
  clear mv kb
  have A0 : 0 ≤ a % pw n := ca.1
  have B0 : 0 ≤ b % pw n := cb.1
  have A1 : a % pw n < 18446744073709551616 := by omega
  have B1 : b % pw n < 18446744073709551616 := by omega
  have CA := Lib.hid ca.2; have CB := Lib.hid cb.2
  clear ha hb sa sb h ca cb hp
  generalize a % pw n = A at *
  generalize b % pw n = B at *
  generalize hX : sg n A = X at *
  generalize hY : sg n B = Y at *
  have HX := Lib.hid hX; have HY := Lib.hid hY
  clear hX hY
  go_enter Tryd.func17, Tryd.ntmps17
  go_wp2_with fail
  refine (right_c n _ H.out).mono ?_
  rintro e w' ⟨rfl, ⟨d1, rfl⟩⟩
  go_wp2_with fail
  refine (HA.out _).mono ?_
  rintro e w' ⟨rfl, ⟨d2, rfl⟩⟩
  go_wp2_with fail
  refine (HB.out _).mono ?_
  rintro e w' ⟨rfl, ⟨d3, rfl⟩⟩
  go_wp2_with fail
  refine (SA.out _).mono ?_
  rintro e w' ⟨rfl, ⟨d4, rfl⟩⟩
  go_wp2_with fail
  refine (SB.out _).mono ?_
  rintro e w' ⟨rfl, ⟨d5, rfl⟩⟩
  go_wp2_with fail
  refine (DV.out _).mono ?_
  rintro e w' ⟨rfl, hbl⟩
  have hbl := Lib.hid hbl
  go_wp2_with fail
  go_ret2
  exact ⟨rfl, close5 hbl.out⟩
set_option maxHeartbeats 1000000 in
set_option maxRecDepth 100000 in
theorem rb12 (n a b : Int) (w : World) (h : R n) (a0 : 0 ≤ a) (a1 : a < 18446744073709551616) (b0 : 0 ≤ b) (b1 : b < 18446744073709551616) :
    Calls Tryd.prog 17 #[.int .i64 n, .int .i64 12, .int .u64 a, .int .u64 b] w fun e w' => e = .returned (.tuple #[.int .u64 (binI n 12 (a % pw n) (b % pw n)).1, .int .i64 (binI n 12 (a % pw n) (b % pw n)).2]) ∧ Below w.heap.size w w' := by
  have H := Lib.hid h
  have hn : 8 ≤ n ∧ n ≤ 64 := by unfold R at h; omega
  have ca := cut_bounds n a; have cb := cut_bounds n b; have hp := pw_pos n
  have ha := cut_c n a (h := h) (h0 := a0) (h1 := a1); have hb := cut_c n b (h := h) (h0 := b0) (h1 := b1)
  have sa := signed_c n (a % pw n) (h := h) (h0 := ca.1) (h1 := by omega); have sb := signed_c n (b % pw n) (h := h) (h0 := cb.1) (h1 := by omega)
  rw [cut_cut] at sa sb
  have HA := Lib.hid ha; have HB := Lib.hid hb; have SA := Lib.hid sa; have SB := Lib.hid sb
  have kb : 0 ≤ b % pw n % n ∧ b % pw n % n < n := ⟨Int.emod_nonneg _ (by omega), Int.emod_lt_of_pos _ (by omega)⟩
  have mv : ∀ w : World, Calls Tryd.prog 36 #[.int .i64 n, .int .i64 12, .int .u64 (a % pw n), .int .i64 (wrap64 (b % pw n % n))] w fun e w' => e = .returned (.int .u64 (binI n 12 (a % pw n) (b % pw n)).1) ∧ Below w.heap.size w w' := by
    rw [wr_i (b % pw n % n) (by omega) (by omega)]
    exact fun w => bodkinref02_moved.calls 1000 n 12 _ _ _ w (rMoved n 12 (a % pw n) (b % pw n) h (by omega) ca.1 ca.2 cb.1 cb.2)
  have DV := Lib.hid mv
  clear mv kb
  have A0 : 0 ≤ a % pw n := ca.1
  have B0 : 0 ≤ b % pw n := cb.1
  have A1 : a % pw n < 18446744073709551616 := by omega
  have B1 : b % pw n < 18446744073709551616 := by omega
  have CA := Lib.hid ca.2; have CB := Lib.hid cb.2
  clear ha hb sa sb h ca cb hp
  generalize a % pw n = A at *
  generalize b % pw n = B at *
  generalize hX : sg n A = X at *
  generalize hY : sg n B = Y at *
  have HX := Lib.hid hX; have HY := Lib.hid hY
  clear hX hY
  go_enter Tryd.func17, Tryd.ntmps17
  go_wp2_with fail
  refine (right_c n _ H.out).mono ?_
  rintro e w' ⟨rfl, ⟨d1, rfl⟩⟩
  go_wp2_with fail
  refine (HA.out _).mono ?_
  rintro e w' ⟨rfl, ⟨d2, rfl⟩⟩
  go_wp2_with fail
  refine (HB.out _).mono ?_
  rintro e w' ⟨rfl, ⟨d3, rfl⟩⟩
  go_wp2_with fail
  refine (SA.out _).mono ?_
  rintro e w' ⟨rfl, ⟨d4, rfl⟩⟩
  go_wp2_with fail
  refine (SB.out _).mono ?_
  rintro e w' ⟨rfl, ⟨d5, rfl⟩⟩
  go_wp2_with fail
  refine (DV.out _).mono ?_
  rintro e w' ⟨rfl, hbl⟩
  have hbl := Lib.hid hbl
  go_wp2_with fail
  go_ret2
  exact ⟨rfl, close5 hbl.out⟩
set_option maxHeartbeats 1000000 in
set_option maxRecDepth 100000 in
theorem rb13 (n a b : Int) (w : World) (h : R n) (a0 : 0 ≤ a) (a1 : a < 18446744073709551616) (b0 : 0 ≤ b) (b1 : b < 18446744073709551616) :
    Calls Tryd.prog 17 #[.int .i64 n, .int .i64 13, .int .u64 a, .int .u64 b] w fun e w' => e = .returned (.tuple #[.int .u64 (binI n 13 (a % pw n) (b % pw n)).1, .int .i64 (binI n 13 (a % pw n) (b % pw n)).2]) ∧ Below w.heap.size w w' := by
  have H := Lib.hid h
  have hn : 8 ≤ n ∧ n ≤ 64 := by unfold R at h; omega
  have ca := cut_bounds n a; have cb := cut_bounds n b; have hp := pw_pos n
  have ha := cut_c n a (h := h) (h0 := a0) (h1 := a1); have hb := cut_c n b (h := h) (h0 := b0) (h1 := b1)
  have sa := signed_c n (a % pw n) (h := h) (h0 := ca.1) (h1 := by omega); have sb := signed_c n (b % pw n) (h := h) (h0 := cb.1) (h1 := by omega)
  rw [cut_cut] at sa sb
  have HA := Lib.hid ha; have HB := Lib.hid hb; have SA := Lib.hid sa; have SB := Lib.hid sb
  have kb : 0 ≤ b % pw n % n ∧ b % pw n % n < n := ⟨Int.emod_nonneg _ (by omega), Int.emod_lt_of_pos _ (by omega)⟩
  have mv : ∀ w : World, Calls Tryd.prog 36 #[.int .i64 n, .int .i64 13, .int .u64 (a % pw n), .int .i64 (wrap64 (b % pw n % n))] w fun e w' => e = .returned (.int .u64 (binI n 13 (a % pw n) (b % pw n)).1) ∧ Below w.heap.size w w' := by
    rw [wr_i (b % pw n % n) (by omega) (by omega)]
    exact fun w => bodkinref02_moved.calls 1000 n 13 _ _ _ w (rMoved n 13 (a % pw n) (b % pw n) h (by omega) ca.1 ca.2 cb.1 cb.2)
  have DV := Lib.hid mv
  clear mv kb
  have A0 : 0 ≤ a % pw n := ca.1
  have B0 : 0 ≤ b % pw n := cb.1
  have A1 : a % pw n < 18446744073709551616 := by omega
  have B1 : b % pw n < 18446744073709551616 := by omega
  have CA := Lib.hid ca.2; have CB := Lib.hid cb.2
  clear ha hb sa sb h ca cb hp
  generalize a % pw n = A at *
  generalize b % pw n = B at *
  generalize hX : sg n A = X at *
  generalize hY : sg n B = Y at *
  have HX := Lib.hid hX; have HY := Lib.hid hY
  clear hX hY
  go_enter Tryd.func17, Tryd.ntmps17
  go_wp2_with fail
  refine (right_c n _ H.out).mono ?_
  rintro e w' ⟨rfl, ⟨d1, rfl⟩⟩
  go_wp2_with fail
  refine (HA.out _).mono ?_
  rintro e w' ⟨rfl, ⟨d2, rfl⟩⟩
  go_wp2_with fail
  refine (HB.out _).mono ?_
  rintro e w' ⟨rfl, ⟨d3, rfl⟩⟩
  go_wp2_with fail
  refine (SA.out _).mono ?_
  rintro e w' ⟨rfl, ⟨d4, rfl⟩⟩
  go_wp2_with fail
  refine (SB.out _).mono ?_
  rintro e w' ⟨rfl, ⟨d5, rfl⟩⟩
  go_wp2_with fail
  refine (DV.out _).mono ?_
  rintro e w' ⟨rfl, hbl⟩
  have hbl := Lib.hid hbl
  go_wp2_with fail
  go_ret2
  exact ⟨rfl, close5 hbl.out⟩
set_option maxHeartbeats 1000000 in
set_option maxRecDepth 100000 in
theorem rb14 (n a b : Int) (w : World) (h : R n) (a0 : 0 ≤ a) (a1 : a < 18446744073709551616) (b0 : 0 ≤ b) (b1 : b < 18446744073709551616) :
    Calls Tryd.prog 17 #[.int .i64 n, .int .i64 14, .int .u64 a, .int .u64 b] w fun e w' => e = .returned (.tuple #[.int .u64 (binI n 14 (a % pw n) (b % pw n)).1, .int .i64 (binI n 14 (a % pw n) (b % pw n)).2]) ∧ Below w.heap.size w w' := by
  have H := Lib.hid h
  have hn : 8 ≤ n ∧ n ≤ 64 := by unfold R at h; omega
  have ca := cut_bounds n a; have cb := cut_bounds n b; have hp := pw_pos n
  have ha := cut_c n a (h := h) (h0 := a0) (h1 := a1); have hb := cut_c n b (h := h) (h0 := b0) (h1 := b1)
  have sa := signed_c n (a % pw n) (h := h) (h0 := ca.1) (h1 := by omega); have sb := signed_c n (b % pw n) (h := h) (h0 := cb.1) (h1 := by omega)
  rw [cut_cut] at sa sb
  have HA := Lib.hid ha; have HB := Lib.hid hb; have SA := Lib.hid sa; have SB := Lib.hid sb
  have kb : 0 ≤ b % pw n % n ∧ b % pw n % n < n := ⟨Int.emod_nonneg _ (by omega), Int.emod_lt_of_pos _ (by omega)⟩
  have mv : ∀ w : World, Calls Tryd.prog 36 #[.int .i64 n, .int .i64 14, .int .u64 (a % pw n), .int .i64 (wrap64 (b % pw n % n))] w fun e w' => e = .returned (.int .u64 (binI n 14 (a % pw n) (b % pw n)).1) ∧ Below w.heap.size w w' := by
    rw [wr_i (b % pw n % n) (by omega) (by omega)]
    exact fun w => bodkinref02_moved.calls 1000 n 14 _ _ _ w (rMoved n 14 (a % pw n) (b % pw n) h (by omega) ca.1 ca.2 cb.1 cb.2)
  have DV := Lib.hid mv
  clear mv kb
  have A0 : 0 ≤ a % pw n := ca.1
  have B0 : 0 ≤ b % pw n := cb.1
  have A1 : a % pw n < 18446744073709551616 := by omega
  have B1 : b % pw n < 18446744073709551616 := by omega
  have CA := Lib.hid ca.2; have CB := Lib.hid cb.2
  clear ha hb sa sb h ca cb hp
  generalize a % pw n = A at *
  generalize b % pw n = B at *
  generalize hX : sg n A = X at *
  generalize hY : sg n B = Y at *
  have HX := Lib.hid hX; have HY := Lib.hid hY
  clear hX hY
  go_enter Tryd.func17, Tryd.ntmps17
  go_wp2_with fail
  refine (right_c n _ H.out).mono ?_
  rintro e w' ⟨rfl, ⟨d1, rfl⟩⟩
  go_wp2_with fail
  refine (HA.out _).mono ?_
  rintro e w' ⟨rfl, ⟨d2, rfl⟩⟩
  go_wp2_with fail
  refine (HB.out _).mono ?_
  rintro e w' ⟨rfl, ⟨d3, rfl⟩⟩
  go_wp2_with fail
  refine (SA.out _).mono ?_
  rintro e w' ⟨rfl, ⟨d4, rfl⟩⟩
  go_wp2_with fail
  refine (SB.out _).mono ?_
  rintro e w' ⟨rfl, ⟨d5, rfl⟩⟩
  go_wp2_with fail
  refine (DV.out _).mono ?_
  rintro e w' ⟨rfl, hbl⟩
  have hbl := Lib.hid hbl
  go_wp2_with fail
  go_ret2
  exact ⟨rfl, close5 hbl.out⟩
set_option maxHeartbeats 1000000 in
set_option maxRecDepth 100000 in
theorem rb15 (n a b : Int) (w : World) (h : R n) (a0 : 0 ≤ a) (a1 : a < 18446744073709551616) (b0 : 0 ≤ b) (b1 : b < 18446744073709551616) :
    Calls Tryd.prog 17 #[.int .i64 n, .int .i64 15, .int .u64 a, .int .u64 b] w fun e w' => e = .returned (.tuple #[.int .u64 (binI n 15 (a % pw n) (b % pw n)).1, .int .i64 (binI n 15 (a % pw n) (b % pw n)).2]) ∧ Below w.heap.size w w' := by
  have H := Lib.hid h
  have hn : 8 ≤ n ∧ n ≤ 64 := by unfold R at h; omega
  have ca := cut_bounds n a; have cb := cut_bounds n b; have hp := pw_pos n
  have ha := cut_c n a (h := h) (h0 := a0) (h1 := a1); have hb := cut_c n b (h := h) (h0 := b0) (h1 := b1)
  have sa := signed_c n (a % pw n) (h := h) (h0 := ca.1) (h1 := by omega); have sb := signed_c n (b % pw n) (h := h) (h0 := cb.1) (h1 := by omega)
  rw [cut_cut] at sa sb
  have HA := Lib.hid ha; have HB := Lib.hid hb; have SA := Lib.hid sa; have SB := Lib.hid sb
  have kb : 0 ≤ b % pw n % n ∧ b % pw n % n < n := ⟨Int.emod_nonneg _ (by omega), Int.emod_lt_of_pos _ (by omega)⟩
  have mv : ∀ w : World, Calls Tryd.prog 36 #[.int .i64 n, .int .i64 15, .int .u64 (a % pw n), .int .i64 (wrap64 (b % pw n % n))] w fun e w' => e = .returned (.int .u64 (binI n 15 (a % pw n) (b % pw n)).1) ∧ Below w.heap.size w w' := by
    rw [wr_i (b % pw n % n) (by omega) (by omega)]
    exact fun w => bodkinref02_moved.calls 1000 n 15 _ _ _ w (rMoved n 15 (a % pw n) (b % pw n) h (by omega) ca.1 ca.2 cb.1 cb.2)
  have DV := Lib.hid mv
  clear mv kb
  have A0 : 0 ≤ a % pw n := ca.1
  have B0 : 0 ≤ b % pw n := cb.1
  have A1 : a % pw n < 18446744073709551616 := by omega
  have B1 : b % pw n < 18446744073709551616 := by omega
  have CA := Lib.hid ca.2; have CB := Lib.hid cb.2
  clear ha hb sa sb h ca cb hp
  generalize a % pw n = A at *
  generalize b % pw n = B at *
  generalize hX : sg n A = X at *
  generalize hY : sg n B = Y at *
  have HX := Lib.hid hX; have HY := Lib.hid hY
  clear hX hY
  go_enter Tryd.func17, Tryd.ntmps17
  go_wp2_with fail
  refine (right_c n _ H.out).mono ?_
  rintro e w' ⟨rfl, ⟨d1, rfl⟩⟩
  go_wp2_with fail
  refine (HA.out _).mono ?_
  rintro e w' ⟨rfl, ⟨d2, rfl⟩⟩
  go_wp2_with fail
  refine (HB.out _).mono ?_
  rintro e w' ⟨rfl, ⟨d3, rfl⟩⟩
  go_wp2_with fail
  refine (SA.out _).mono ?_
  rintro e w' ⟨rfl, ⟨d4, rfl⟩⟩
  go_wp2_with fail
  refine (SB.out _).mono ?_
  rintro e w' ⟨rfl, ⟨d5, rfl⟩⟩
  go_wp2_with fail
  refine (DV.out _).mono ?_
  rintro e w' ⟨rfl, hbl⟩
  have hbl := Lib.hid hbl
  go_wp2_with fail
  go_ret2
  exact ⟨rfl, close5 hbl.out⟩
end Go.Proofs.YtajmjmnlapplaaaDoor.RB

namespace Go.Proofs.YtajmjmnlapplaaaDoor.RB
set_option linter.unusedVariables false
set_option linter.unusedSimpArgs false
open Go.RowKit Go.Proofs.YtajmjmnlapplaaaDoor.PInts Go.Proofs.YtajmjmnlapplaaaDoor.Pure Go.Proofs.YtajmjmnlapplaaaDoorW.PrintWords Go.Proofs.YtajmjmnlapplaaaDoorW.PrintLast Go.Proofs.YtajmjmnlapplaaaDoorW.PrintMore

def mA (A : Int) (i : Nat) : Int := A * 2 ^ i % 18446744073709551616
def mS (A B : Int) (i : Nat) : Int := A * (B % 2 ^ i) % 18446744073709551616
theorem mA_zero (A : Int) (h0 : 0 ≤ A) (h1 : A < 18446744073709551616) : mA A 0 = A := by unfold mA; simp; omega
theorem mS_zero (A B : Int) : mS A B 0 = 0 := by unfold mS; simp
theorem mA_next (A : Int) (i : Nat) : IntKind.u64.wrap (mA A i * 2) = mA A (i + 1) := by
  unfold mA
  rw [IntKind.wrap_u64, Int.mul_emod, Int.emod_emod, ← Int.mul_emod, Int.pow_succ, ← Int.mul_assoc]
theorem mod_next (B : Int) (i : Nat) : B % 2 ^ (i + 1) = B % 2 ^ i + 2 ^ i * bitAt B i := by
  have hp := two_pos i
  have e1 := Int.mul_ediv_add_emod B (2 ^ i)
  have e2 := Int.mul_ediv_add_emod (B / 2 ^ i) 2
  have r0 := Int.emod_nonneg B (Int.ne_of_gt hp)
  have r1 := Int.emod_lt_of_pos B hp
  have hb := bitAt_range B i
  have hbit : bitAt B i = B / 2 ^ i % 2 := rfl
  have e3 : B = (B % 2 ^ i + 2 ^ i * bitAt B i) + 2 ^ (i + 1) * (B / 2 ^ i / 2) := by
    rw [Int.pow_succ, Int.mul_assoc]
    have : 2 ^ i * (B / 2 ^ i) = 2 ^ i * (2 * (B / 2 ^ i / 2)) + 2 ^ i * bitAt B i := by rw [← Int.mul_add, hbit, e2]
    omega
  have e4 : (B % 2 ^ i + 2 ^ i * bitAt B i + 2 ^ (i + 1) * (B / 2 ^ i / 2)) % 2 ^ (i + 1) = B % 2 ^ i + 2 ^ i * bitAt B i := by
    rw [Int.add_mul_emod_self_left]
    refine Int.emod_eq_of_lt ?_ ?_
    · have := Int.mul_nonneg (Int.le_of_lt hp) hb.1; omega
    · rw [Int.pow_succ]
      have := Int.mul_le_mul_of_nonneg_left hb.2 (Int.le_of_lt hp)
      omega
  exact (congrArg (· % 2 ^ (i + 1)) e3).trans e4
theorem mS_one (A B : Int) (i : Nat) (h : bitAt B i = 1) : IntKind.u64.wrap (mS A B i + mA A i) = mS A B (i + 1) := by
  unfold mS mA
  rw [IntKind.wrap_u64, ← Int.add_emod, mod_next, h, Int.mul_one, Int.mul_add]
theorem mS_same (A B : Int) (i : Nat) (h : bitAt B i = 0) : mS A B i = mS A B (i + 1) := by
  unfold mS
  rw [mod_next, h, Int.mul_zero, Int.add_zero]
theorem mS_last (n A B : Int) (h : R n) (B0 : 0 ≤ B) (B1 : B < pw n) : mS A B n.toNat % pw n = A * B % pw n := by
  unfold mS
  rw [← pw_pow n h, Int.emod_eq_of_lt B0 B1, big_cut n _ h]
theorem mS_range (A B : Int) (i : Nat) : 0 ≤ mS A B i ∧ mS A B i < 18446744073709551616 := by unfold mS; omega
theorem mA_range (A : Int) (i : Nat) : 0 ≤ mA A i ∧ mA A i < 18446744073709551616 := by unfold mA; omega

theorem bit_c (B : Int) (i : Nat) (w : World) (hi : i ≤ 64) (h0 : 0 ≤ B) (h1 : B < 18446744073709551616) : Calls Tryd.prog 32 #[.int .u64 B, .int .i64 (i : Int)] w fun e w' => e = .returned (.int .u64 (bitAt B i)) ∧ Drawn0 w w' :=
  bodkinref02_bit.calls 100 B i _ w (rBit 100 B i (by omega) (by omega) (by omega) h0 h1)

set_option maxHeartbeats 1000000 in
set_option maxRecDepth 100000 in
theorem rb3 (n a b : Int) (w : World) (h : R n) (a0 : 0 ≤ a) (a1 : a < 18446744073709551616) (b0 : 0 ≤ b) (b1 : b < 18446744073709551616) :
    Calls Tryd.prog 17 #[.int .i64 n, .int .i64 3, .int .u64 a, .int .u64 b] w fun e w' => e = .returned (.tuple #[.int .u64 (binI n 3 (a % pw n) (b % pw n)).1, .int .i64 (binI n 3 (a % pw n) (b % pw n)).2]) ∧ Below w.heap.size w w' := by
  have H := Lib.hid h
  have hn : 8 ≤ n ∧ n ≤ 64 := by unfold R at h; omega
  have ca := cut_bounds n a; have cb := cut_bounds n b; have hp := pw_pos n
  have ha := cut_c n a (h := h) (h0 := a0) (h1 := a1); have hb := cut_c n b (h := h) (h0 := b0) (h1 := b1)
  have sa := signed_c n (a % pw n) (h := h) (h0 := ca.1) (h1 := by omega); have sb := signed_c n (b % pw n) (h := h) (h0 := cb.1) (h1 := by omega)
  rw [cut_cut] at sa sb
  have HA := Lib.hid ha; have HB := Lib.hid hb; have SA := Lib.hid sa; have SB := Lib.hid sb
  have A0 : 0 ≤ a % pw n := ca.1
  have B0 : 0 ≤ b % pw n := cb.1
  have A1 : a % pw n < 18446744073709551616 := by omega
  have B1 : b % pw n < 18446744073709551616 := by omega
  have CB := Lib.hid cb.2
  clear ha hb sa sb h ca cb hp
  generalize a % pw n = A at *
  generalize b % pw n = B at *
  have MA := Lib.hid (mA_zero A A0 A1)
  have MS := Lib.hid (mS_zero A B)
  generalize hX : sg n A = X at *
  generalize hY : sg n B = Y at *
  clear hX hY
  go_enter Tryd.func17, Tryd.ntmps17
  go_wp2_with fail
  refine (right_c n _ H.out).mono ?_
  rintro e w' ⟨rfl, ⟨d1, rfl⟩⟩
  go_wp2_with fail
  refine (HA.out _).mono ?_
  rintro e w' ⟨rfl, ⟨d2, rfl⟩⟩
  go_wp2_with fail
  refine (HB.out _).mono ?_
  rintro e w' ⟨rfl, ⟨d3, rfl⟩⟩
  go_wp2_with fail
  refine (SA.out _).mono ?_
  rintro e w' ⟨rfl, ⟨d4, rfl⟩⟩
  go_wp2_with fail
  refine (SB.out _).mono ?_
  rintro e w' ⟨rfl, ⟨d5, rfl⟩⟩
  go_wp2_with fail
  go_loopw [2, 14, 15] (fun v2 v14 v15 wr => ∃ i : Nat, (i : Int) ≤ n ∧ v2 = .int .u64 (mA A i) ∧ v14 = .int .u64 (mS A B i) ∧ v15 = .int .i64 (i : Int) ∧ Aside0 (Drawn0 w wr)) (fun _ _ v15 _ => (n - intOf v15).toNat)
  case atStart => exact ⟨0, by omega, by rw [MA.out], by rw [MS.out], rfl, ⟨⟨_, rfl⟩⟩⟩
  case round =>
    obtain ⟨i, hi, rfl, rfl, rfl, HD⟩ := hrel
    have rS := mS_range A B i
    have rA := mA_range A i
    by_cases hlt : (i : Int) < n
    · have hbr := bitAt_range B i
      have HBit := Lib.hid (bit_c B i (hi := by omega) (h0 := B0) (h1 := B1))
      have N1 := Lib.hid (mA_next A i)
      rcases (show bitAt B i = 0 ∨ bitAt B i = 1 by omega) with hz | hz
      · have N2 := Lib.hid (mS_same A B i hz)
        rw [hz] at HBit
        clear hbr hz
        go_wp2_with fail
        refine (HBit.out _).mono ?_
        rintro e w' ⟨rfl, ⟨d6, rfl⟩⟩
        go_wp2_with fail
        go_roundw
        case rel => exact ⟨i + 1, by omega, by rw [← N1.out], by rw [← N2.out], by go_num, ⟨(HD.out).step d6⟩⟩
        case measure => simp [intOf]; omega
      · have N2 := Lib.hid (mS_one A B i hz)
        rw [hz] at HBit
        clear hbr hz
        go_wp2_with fail
        refine (HBit.out _).mono ?_
        rintro e w' ⟨rfl, ⟨d6, rfl⟩⟩
        go_wp2_with fail
        go_roundw
        case rel => exact ⟨i + 1, by omega, by rw [← N1.out], by rw [← N2.out], by go_num, ⟨(HD.out).step d6⟩⟩
        case measure => simp [intOf]; omega
    · have hin : (i : Int) = n := by omega
      have LAST := Lib.hid (mS_last n A B H.out B0 CB.out)
      have HC := Lib.hid (cut_c n (mS A B i) (h := H.out) (h0 := rS.1) (h1 := rS.2))
      have IN := Lib.hid (show i = n.toNat by omega)
      clear hin
      go_wp2_with fail
      refine (HC.out _).mono ?_
      rintro e w' ⟨rfl, ⟨d6, rfl⟩⟩
      go_wp2_with fail
      go_ret2
      exact ⟨by rw [IN.out, LAST.out]; rfl, ((HD.out).step d6).below⟩
end Go.Proofs.YtajmjmnlapplaaaDoor.RB

namespace Go.Proofs.YtajmjmnlapplaaaDoor.RB
set_option linter.unusedVariables false
set_option linter.unusedSimpArgs false
open Go.RowKit Go.Proofs.YtajmjmnlapplaaaDoor.PInts Go.Proofs.YtajmjmnlapplaaaDoor.Pure Go.Proofs.YtajmjmnlapplaaaDoorW.PrintWords Go.Proofs.YtajmjmnlapplaaaDoorW.PrintLast Go.Proofs.YtajmjmnlapplaaaDoorW.PrintMore

/-- What two bits come to. -/
def gb (op x y : Int) : Int := if op = 8 then (if x + y = 2 then 1 else 0) else if op = 9 then (if x + y > 0 then 1 else 0) else (if x + y = 1 then 1 else 0)
def gs (op A B : Int) : Nat → List Int
  | 0 => []
  | i + 1 => gs op A B i ++ [gb op (bitAt A i) (bitAt B i)]
def zl (op A B n : Int) (i : Nat) : List Int := gs op A B i ++ (bl n.toNat A).drop i
theorem gs_length (op A B : Int) (i : Nat) : (gs op A B i).length = i := by
  induction i with
  | zero => rfl
  | succ i ih => simp [gs, ih]
theorem zl_length (op A B n : Int) (i : Nat) (h : (i : Int) ≤ n) : (zl op A B n i).length = n.toNat := by
  simp [zl, gs_length, bl_length]; omega
theorem zl_zero (op A B n : Int) : zl op A B n 0 = bl n.toNat A := rfl
theorem zl_at (op A B n : Int) (i : Nat) (h : (i : Int) < n) : rd (zl op A B n i) (i : Int) = bitAt A i := by
  unfold rd zl
  rw [show (i : Int).toNat = i from rfl, List.getD_eq_getElem?_getD, List.getElem?_append_right (by rw [gs_length]; omega), gs_length, Nat.sub_self, List.getElem?_drop, Nat.add_zero, ← List.getD_eq_getElem?_getD]
  exact bl_get _ _ _ (by omega)
theorem bl_at (B n : Int) (i : Nat) (h : (i : Int) < n) : rd (bl n.toNat B) (i : Int) = bitAt B i := by
  unfold rd
  exact bl_get _ _ _ (by omega)
theorem zl_set (op A B n : Int) (i : Nat) (v : Int) (h : (i : Int) < n) (hv : v = gb op (bitAt A i) (bitAt B i)) : (zl op A B n i).set (i : Int).toNat v = zl op A B n (i + 1) := by
  unfold zl
  rw [show (i : Int).toNat = i from rfl, List.set_append, if_neg (by rw [gs_length]; omega), gs_length, Nat.sub_self, hv, List.drop_eq_getElem_cons (by rw [bl_length]; omega)]
  simp only [gs, List.set_cons_zero, List.append_assoc, List.cons_append, List.nil_append]
theorem zl_set2 (op A B n : Int) (i : Nat) (u v : Int) (h : (i : Int) < n) (hv : v = gb op (bitAt A i) (bitAt B i)) : ((zl op A B n i).set (i : Int).toNat u).set (i : Int).toNat v = zl op A B n (i + 1) := by
  rw [List.set_set]
  exact zl_set op A B n i v h hv
theorem zl_atx (op A B n x : Int) (h0 : 0 ≤ x) (h : x < n) : rd (zl op A B n x.toNat) x = bitAt A x.toNat := by
  have := zl_at op A B n x.toNat (by omega)
  rw [Int.toNat_of_nonneg h0] at this
  exact this
theorem bl_atx (B n x : Int) (h0 : 0 ≤ x) (h : x < n) : rd (bl n.toNat B) x = bitAt B x.toNat := by
  have := bl_at B n x.toNat (by omega)
  rw [Int.toNat_of_nonneg h0] at this
  exact this
theorem zl_setx (op A B n x v : Int) (h0 : 0 ≤ x) (h : x < n) (hv : v = gb op (bitAt A x.toNat) (bitAt B x.toNat)) : (zl op A B n x.toNat).set x.toNat v = zl op A B n (x + 1).toNat := by
  have := zl_set op A B n x.toNat v (by omega) hv
  rw [Int.toNat_of_nonneg h0] at this
  rw [this, show (x + 1).toNat = x.toNat + 1 from by omega]
theorem zl_setx2 (op A B n x u v : Int) (h0 : 0 ≤ x) (h : x < n) (hv : v = gb op (bitAt A x.toNat) (bitAt B x.toNat)) : ((zl op A B n x.toNat).set x.toNat u).set x.toNat v = zl op A B n (x + 1).toNat := by
  rw [List.set_set]
  exact zl_setx op A B n x v h0 h hv
theorem gb_range (op x y : Int) : 0 ≤ gb op x y ∧ gb op x y ≤ 1 := by
  unfold gb
  repeat' split
  all_goals omega
theorem gs_get (op A B : Int) (m : Nat) : ∀ i, i < m → (gs op A B m).getD i 0 = gb op (bitAt A i) (bitAt B i) := by
  induction m with
  | zero => intro i h; omega
  | succ m ih =>
    intro i h
    simp only [gs]
    by_cases hm : i = m
    · subst hm
      rw [List.getD_eq_getElem?_getD, List.getElem?_append_right (by rw [gs_length]; omega)]
      simp [gs_length]
    · rw [List.getD_eq_getElem?_getD, List.getElem?_append_left (by rw [gs_length]; omega), ← List.getD_eq_getElem?_getD]
      exact ih i (by omega)
theorem bit_nat (x i : Nat) : bitAt (x : Int) i = if x.testBit i then 1 else 0 := by
  unfold bitAt
  rw [Nat.testBit_eq_decide_div_mod_eq]
  have e : ((x : Int) / 2 ^ i % 2) = ((x / 2 ^ i % 2 : Nat) : Int) := by simp
  rw [e]
  by_cases h : x / 2 ^ i % 2 = 1
  · rw [decide_eq_true h, h]; rfl
  · rw [decide_eq_false h, show x / 2 ^ i % 2 = 0 by omega]; rfl
theorem gs_ov (n op A B X : Int) (h : R n) (hX0 : 0 ≤ X) (hX1 : X < pw n) (hb : ∀ i : Nat, (i : Int) < n → gb op (bitAt A i) (bitAt B i) = bitAt X i) : ov (zl op A B n n.toNat) = X := by
  have hn : 8 ≤ n ∧ n ≤ 64 := by unfold R at h; omega
  have e0 : zl op A B n n.toNat = gs op A B n.toNat := by unfold zl; rw [List.drop_of_length_le (by rw [bl_length]; omega), List.append_nil]
  have e : gs op A B n.toNat = bl n.toNat X := eq_bl n.toNat _ X (gs_length _ _ _ _) (fun i hi => by rw [gs_get op A B n.toNat i hi]; exact hb i (by omega))
  rw [e0, e, ov_bl _ _ hX0, ← pw_pow n h]
  exact Int.emod_eq_of_lt hX0 hX1
theorem zl_last (n op A B : Int) (h : R n) (hop : 8 ≤ op ∧ op ≤ 10) (A0 : 0 ≤ A) (A1 : A < pw n) (B0 : 0 ≤ B) (B1 : B < pw n) : ov (zl op A B n n.toNat) = (binI n op A B).1 := by
  obtain ⟨d, hd, e⟩ := pw_two n h
  obtain ⟨x, rfl⟩ := Int.eq_ofNat_of_zero_le A0
  obtain ⟨y, rfl⟩ := Int.eq_ofNat_of_zero_le B0
  have hx : x < 2 ^ d := by omega
  have hy : y < 2 ^ d := by omega
  have : op = 8 ∨ op = 9 ∨ op = 10 := by omega
  rcases this with rfl | rfl | rfl
  · have hb : (binI n 8 (x : Int) (y : Int)).1 = ((x &&& y : Nat) : Int) := rfl
    have := Nat.and_lt_two_pow x hy
    rw [hb]
    refine gs_ov n 8 _ _ _ h (by omega) (by omega) (fun i hi => ?_)
    rw [bit_nat, bit_nat, bit_nat, Nat.testBit_and]
    cases x.testBit i <;> cases y.testBit i <;> rfl
  · have hb : (binI n 9 (x : Int) (y : Int)).1 = ((x ||| y : Nat) : Int) := rfl
    have := Nat.or_lt_two_pow hx hy
    rw [hb]
    refine gs_ov n 9 _ _ _ h (by omega) (by omega) (fun i hi => ?_)
    rw [bit_nat, bit_nat, bit_nat, Nat.testBit_or]
    cases x.testBit i <;> cases y.testBit i <;> rfl
  · have hb : (binI n 10 (x : Int) (y : Int)).1 = ((x ^^^ y : Nat) : Int) := rfl
    have := Nat.xor_lt_two_pow hx hy
    rw [hb]
    refine gs_ov n 10 _ _ _ h (by omega) (by omega) (fun i hi => ?_)
    rw [bit_nat, bit_nat, bit_nat, Nat.testBit_xor]
    cases x.testBit i <;> cases y.testBit i <;> rfl
theorem zl_bits (op A B n : Int) (i : Nat) : ∀ x ∈ zl op A B n i, 0 ≤ x ∧ x ≤ 1 := by
  intro x hx
  unfold zl at hx
  rcases List.mem_append.1 hx with hx | hx
  · obtain ⟨j, hj, e⟩ := List.getElem_of_mem hx
    have := gs_get op A B i j (by rw [gs_length] at hj; exact hj)
    rw [List.getD_eq_getElem?_getD, List.getElem?_eq_getElem hj] at this
    simp at this
    rw [← e, this]
    exact gb_range _ _ _
  · exact bl_bits _ _ x (List.mem_of_mem_drop hx)


set_option maxHeartbeats 4000000 in
set_option maxRecDepth 100000 in
theorem rb8 (n a b : Int) (w : World) (h : R n) (a0 : 0 ≤ a) (a1 : a < 18446744073709551616) (b0 : 0 ≤ b) (b1 : b < 18446744073709551616) :
    Calls Tryd.prog 17 #[.int .i64 n, .int .i64 8, .int .u64 a, .int .u64 b] w fun e w' => e = .returned (.tuple #[.int .u64 (binI n 8 (a % pw n) (b % pw n)).1, .int .i64 (binI n 8 (a % pw n) (b % pw n)).2]) ∧ Below w.heap.size w w' := by
  have H := Lib.hid h
  have hn : 8 ≤ n ∧ n ≤ 64 := by unfold R at h; omega
  have ca := cut_bounds n a; have cb := cut_bounds n b; have hp := pw_pos n
  have ha := cut_c n a (h := h) (h0 := a0) (h1 := a1); have hb := cut_c n b (h := h) (h0 := b0) (h1 := b1)
  have sa := signed_c n (a % pw n) (h := h) (h0 := ca.1) (h1 := by omega); have sb := signed_c n (b % pw n) (h := h) (h0 := cb.1) (h1 := by omega)
  rw [cut_cut] at sa sb
  have HA := Lib.hid ha; have HB_ := Lib.hid hb; have SA := Lib.hid sa; have SB := Lib.hid sb
  have A0 : 0 ≤ a % pw n := ca.1
  have B0 : 0 ≤ b % pw n := cb.1
  have A1 : a % pw n < 18446744073709551616 := by omega
  have B1 : b % pw n < 18446744073709551616 := by omega
  have CA := Lib.hid ca.2; have CB := Lib.hid cb.2
  have LA := Lib.hid (rList 100 n (a % pw n) (by omega) (by omega) (by omega) A0 A1)
  have LB := Lib.hid (rList 100 n (b % pw n) (by omega) (by omega) (by omega) B0 B1)
  clear ha hb sa sb h ca cb hp
  generalize a % pw n = A at *
  generalize b % pw n = B at *
  have LAST := Lib.hid (zl_last n 8 A B H.out (by omega) A0 CA.out B0 CB.out)
  have Z0 := Lib.hid (zl_zero 8 A B n)
  generalize hX : sg n A = X at *
  generalize hY : sg n B = Y at *
  clear hX hY
  have HB := Aside0.mk (Below.refl w.heap.size w)
  go_enter Tryd.func17, Tryd.ntmps17
  go_wp2_with fail
  refine (right_c n _ H.out).mono ?_
  rintro e w' ⟨rfl, ⟨d1, rfl⟩⟩
  go_wp2_with fail
  refine (HA.out _).mono ?_
  rintro e w' ⟨rfl, ⟨d2, rfl⟩⟩
  go_wp2_with fail
  refine (HB_.out _).mono ?_
  rintro e w' ⟨rfl, ⟨d3, rfl⟩⟩
  go_wp2_with fail
  refine (SA.out _).mono ?_
  rintro e w' ⟨rfl, ⟨d4, rfl⟩⟩
  go_wp2_with fail
  refine (SB.out _).mono ?_
  rintro e w' ⟨rfl, ⟨d5, rfl⟩⟩
  go_wp2_with fail
  (with_reducible refine (bodkinref02_list.calls 100 n A (bl n.toNat A) _ LA.out).mono ?_)
  rintro e w39 ⟨v199, rfl, ho0, hb⟩
  have n0_ := Aside0.mk (Kd.R_lower ho0 (below_size (by repeat (first | (with_reducible first | exact HB.out | apply below_alloc | apply pw_below_drewN | apply below_drew1) | exact HB.out))))
  have n1_ := Aside0.mk (below_step (by repeat (first | (with_reducible first | exact HB.out | apply below_alloc | apply pw_below_drewN | apply below_drew1) | exact HB.out)) hb)
  clear HB hb ho0
  have HO200 := n0_
  have HB := n1_
  clear n0_ n1_
  go_wp2_with fail
  (with_reducible refine (bodkinref02_list.calls 100 n B (bl n.toNat B) _ LB.out).mono ?_)
  rintro e w40 ⟨v202, rfl, ho0, hb⟩
  have n0_ := Aside0.mk (Kd.R_elder' (by (with_reducible repeat (first | apply Kd.R_alloc | apply Kd.R_drewN | apply Kd.R_drew)); exact HO200.out) (Kd.R_base ho0) hb)
  have n1_ := Aside0.mk (Kd.R_lower (Kd.R_new' ho0 (Kd.R_lt (by (with_reducible repeat (first | apply Kd.R_alloc | apply Kd.R_drewN | apply Kd.R_drew)); exact HO200.out))) (below_size (by repeat (first | (with_reducible first | exact HB.out | apply below_alloc | apply pw_below_drewN | apply below_drew1) | exact HB.out))))
  have n2_ := Aside0.mk (below_step (by repeat (first | (with_reducible first | exact HB.out | apply below_alloc | apply pw_below_drewN | apply below_drew1) | exact HB.out)) hb)
  clear HO200 HB hb ho0
  have HO200 := n0_
  have HO203 := n1_
  have HB := n2_
  clear n0_ n1_ n2_
  go_wp2_with fail
  go_loopw [18] (fun v18 wr => ∃ x : Int, 0 ≤ x ∧ x ≤ n ∧ v18 = .int .i64 x ∧ Aside0 (Kd.R (Kd.int .u64) 22 wr w.heap.size (fun k_ => some k_ ≠ (v202 : Value).ownBlock) v199 (zl 8 A B n x.toNat)) ∧ Aside0 (Kd.R (Kd.int .u64) 22 wr w.heap.size (fun k_ => some k_ ≠ (v199 : Value).ownBlock) v202 (bl n.toNat B)) ∧ Aside0 (Below w.heap.size w wr)) (fun v18 _ => (n - intOf v18).toNat)
  case atStart => exact ⟨0, by omega, by omega, rfl, ⟨by rw [show (0 : Int).toNat = 0 from rfl, Z0.out]; (with_reducible repeat (first | apply Kd.R_alloc | apply Kd.R_drewN | apply Kd.R_drew)); exact Kd.R_mono HO200.out (fun _ hk => hk.2)⟩, ⟨by (with_reducible repeat (first | apply Kd.R_alloc | apply Kd.R_drewN | apply Kd.R_drew)); exact Kd.R_mono HO203.out (fun _ hk => hk.2)⟩, ⟨(by repeat (first | (with_reducible first | exact HB.out | apply below_alloc | apply pw_below_drewN | apply below_drew1) | exact HB.out))⟩⟩
  case round =>
    clear HO200 HO203
    obtain ⟨x, hx0, hi, rfl, HO_16, HO_17, HB⟩ := hrel
    by_cases hlt : x < n
    · have hl16 : ((zl 8 A B n x.toNat).length : Int) = n := by rw [zl_length _ _ _ _ _ (by omega)]; omega
      have hl17 : ((bl n.toNat B).length : Int) = n := by rw [bl_length]; omega
      have rA := Lib.hid (zl_atx 8 A B n x hx0 hlt)
      have rB := Lib.hid (bl_atx B n x hx0 hlt)
      have ZS := fun v (hv : v = gb 8 (bitAt A x.toNat) (bitAt B x.toNat)) => zl_setx 8 A B n x v hx0 hlt hv
      have ZT := fun u v (hv : v = gb 8 (bitAt A x.toNat) (bitAt B x.toNat)) => zl_setx2 8 A B n x u v hx0 hlt hv
      have ZS := Lib.hid ZS
      have ZT := Lib.hid ZT
      obtain ⟨Ao47, co47, eo47⟩ := Kd.R_slice HO_16.out
      subst eo47
      have p204 : 0 ≤ x := hx0
      have q204 : x < ((zl 8 A B n x.toNat).length : Int) := by omega
      obtain ⟨ad204, e204, hx204_0⟩ := Kd.at_int (Kd.R_reads' HO_16.out).2.2 x p204 q204
      cases e204
      obtain ⟨Ao48, co48, eo48⟩ := Kd.R_slice HO_17.out
      subst eo48
      have q205 : x < ((bl n.toNat B).length : Int) := by omega
      obtain ⟨ad205, e205, hx205_0⟩ := Kd.at_int (Kd.R_reads' HO_17.out).2.2 x p204 q205
      cases e205
      obtain ⟨go45, co45, eo45, gb45, gl45, cl45, HG45⟩ := Kd.R_form HO_16.out (by omega)
      (first | cases eo45 | (injection eo45 with ea_ en_ ec_; (first | subst ea_ | (injection ea_ with ea_; subst ea_)); subst ec_; clear en_))
      have GB45 := Aside0.mk gb45
      have GG45 := Aside0.mk HG45
      clear gb45 gl45 HG45
      (first | simp only [add_plain] at hx204_0 | skip)
      obtain ⟨hx45_0, hf45_0⟩ := Kd.R_celln 0 HO_16.out x p204 q204
      rw [rA.out] at hx204_0
      rw [show rdOf 0 (zl 8 A B n x.toNat) x = bitAt A x.toNat from rA.out] at hx45_0
      rw [rB.out] at hx205_0
      have gA := bitAt_range A x.toNat
      have gB := bitAt_range B x.toNat
      have hl1 := Lib.hid hl16
      have hl2 := Lib.hid hl17
      clear hl16 hl17
      have P204 := Lib.hid p204
      replace p204 := eq_true p204
      replace q204 := eq_true q204
      replace q205 := eq_true q205
      have HP := Kd.R_putg HO_16.out x 0
      rcases (show bitAt A x.toNat = 0 ∨ bitAt A x.toNat = 1 by omega) with hα | hα <;> rcases (show bitAt B x.toNat = 0 ∨ bitAt B x.toNat = 1 by omega) with hβ | hβ
      · rw [hα] at hx204_0 hx45_0 ZS ZT
        rw [hβ] at hx205_0 ZS ZT
        clear hα hβ gA gB rA rB HP
        go_upto_region 38 with (fail)
        go_quiet (fail)
        go_wp2_with fail
        go_roundw
        case measure => simp [intOf]; omega
        case rel =>
          refine ⟨x + 1, by omega, by omega, by go_num, ⟨?_⟩, ⟨?_⟩, ⟨?_⟩⟩
          · rw [← ZS.out 0 rfl]
            refine (Kd.R_putg ?_ x 0).1
            (with_reducible repeat (first | apply Kd.R_alloc | apply Kd.R_drewN | apply Kd.R_drew))
            exact HO_16.out
          · refine Kd.R_mono (Kd.R_after (v := (.slice (some ⟨go45, 0, none⟩) (zl 8 A B n x.toNat).length co47)) (v1 := (.slice (some ⟨go45, 0, none⟩) (zl 8 A B n x.toNat).length co47)) (ok := (fun _ => True)) ?_ (Kd.R_putg (Kd.R_drewN HO_16.out _) x 0).2 (.inl rfl)) (fun _ hk => hk.2)
            (with_reducible repeat (first | apply Kd.R_alloc | apply Kd.R_drewN | apply Kd.R_drew))
            exact Kd.R_mono HO_17.out (fun _ hk => ⟨trivial, hk⟩)
          · exact below_set (by repeat (first | (with_reducible first | exact HB.out | apply below_alloc | apply pw_below_drewN | apply below_drew1) | exact HB.out)) GB45.out
      · rw [hα] at hx204_0 hx45_0 ZS ZT
        rw [hβ] at hx205_0 ZS ZT
        clear hα hβ gA gB rA rB HP
        go_upto_region 38 with (fail)
        go_quiet (fail)
        go_wp2_with fail
        go_roundw
        case measure => simp [intOf]; omega
        case rel =>
          refine ⟨x + 1, by omega, by omega, by go_num, ⟨?_⟩, ⟨?_⟩, ⟨?_⟩⟩
          · rw [← ZS.out 0 rfl]
            refine (Kd.R_putg ?_ x 0).1
            (with_reducible repeat (first | apply Kd.R_alloc | apply Kd.R_drewN | apply Kd.R_drew))
            exact HO_16.out
          · refine Kd.R_mono (Kd.R_after (v := (.slice (some ⟨go45, 0, none⟩) (zl 8 A B n x.toNat).length co47)) (v1 := (.slice (some ⟨go45, 0, none⟩) (zl 8 A B n x.toNat).length co47)) (ok := (fun _ => True)) ?_ (Kd.R_putg (Kd.R_drewN HO_16.out _) x 0).2 (.inl rfl)) (fun _ hk => hk.2)
            (with_reducible repeat (first | apply Kd.R_alloc | apply Kd.R_drewN | apply Kd.R_drew))
            exact Kd.R_mono HO_17.out (fun _ hk => ⟨trivial, hk⟩)
          · exact below_set (by repeat (first | (with_reducible first | exact HB.out | apply below_alloc | apply pw_below_drewN | apply below_drew1) | exact HB.out)) GB45.out
      · rw [hα] at hx204_0 hx45_0 ZS ZT
        rw [hβ] at hx205_0 ZS ZT
        clear hα hβ gA gB rA rB HP
        go_upto_region 38 with (fail)
        go_quiet (fail)
        go_wp2_with fail
        go_roundw
        case measure => simp [intOf]; omega
        case rel =>
          refine ⟨x + 1, by omega, by omega, by go_num, ⟨?_⟩, ⟨?_⟩, ⟨?_⟩⟩
          · rw [← ZS.out 0 rfl]
            refine (Kd.R_putg ?_ x 0).1
            (with_reducible repeat (first | apply Kd.R_alloc | apply Kd.R_drewN | apply Kd.R_drew))
            exact HO_16.out
          · refine Kd.R_mono (Kd.R_after (v := (.slice (some ⟨go45, 0, none⟩) (zl 8 A B n x.toNat).length co47)) (v1 := (.slice (some ⟨go45, 0, none⟩) (zl 8 A B n x.toNat).length co47)) (ok := (fun _ => True)) ?_ (Kd.R_putg (Kd.R_drewN HO_16.out _) x 0).2 (.inl rfl)) (fun _ hk => hk.2)
            (with_reducible repeat (first | apply Kd.R_alloc | apply Kd.R_drewN | apply Kd.R_drew))
            exact Kd.R_mono HO_17.out (fun _ hk => ⟨trivial, hk⟩)
          · exact below_set (by repeat (first | (with_reducible first | exact HB.out | apply below_alloc | apply pw_below_drewN | apply below_drew1) | exact HB.out)) GB45.out
      · rw [hα] at hx204_0 hx45_0 ZS ZT
        rw [hβ] at hx205_0 ZS ZT
        clear hα hβ gA gB rA rB HP
        go_upto_region 38 with (fail)
        go_quiet (fail)
        go_wp2_with fail
        go_roundw
        case measure => simp [intOf]; omega
        case rel =>
          refine ⟨x + 1, by omega, by omega, by go_num, ⟨?_⟩, ⟨?_⟩, ⟨?_⟩⟩
          · rw [← ZT.out 0 1 rfl]
            refine (Kd.R_putg (Kd.R_putg ?_ x 0).1 x 1).1
            (with_reducible repeat (first | apply Kd.R_alloc | apply Kd.R_drewN | apply Kd.R_drew))
            exact HO_16.out
          · refine Kd.R_mono (Kd.R_after (v := (.slice (some ⟨go45, 0, none⟩) (zl 8 A B n x.toNat).length co47)) (v1 := (.slice (some ⟨go45, 0, none⟩) (zl 8 A B n x.toNat).length co47)) (ok := (fun _ => True)) (Kd.R_mono (Kd.R_after (v := (.slice (some ⟨go45, 0, none⟩) (zl 8 A B n x.toNat).length co47)) (v1 := (.slice (some ⟨go45, 0, none⟩) (zl 8 A B n x.toNat).length co47)) (ok := (fun _ => True)) ?_ (Kd.R_putg (Kd.R_drewN HO_16.out _) x 0).2 (.inl rfl)) (fun _ hk => ⟨trivial, hk.2⟩)) (Kd.R_putg (Kd.R_putg (Kd.R_drewN HO_16.out _) x 0).1 x 1).2 (.inl rfl)) (fun _ hk => hk.2)
            (with_reducible repeat (first | apply Kd.R_alloc | apply Kd.R_drewN | apply Kd.R_drew))
            exact Kd.R_mono HO_17.out (fun _ hk => ⟨trivial, hk⟩)
          · exact below_set (below_set (by repeat (first | (with_reducible first | exact HB.out | apply below_alloc | apply pw_below_drewN | apply below_drew1) | exact HB.out)) GB45.out) GB45.out
    · have IN := Lib.hid (show x.toNat = n.toNat by omega)
      have hl16 := zl_length 8 A B n x.toNat (by omega)
      have OF := Lib.hid (rOf 100 (zl 8 A B n x.toNat) (by omega) (zl_bits 8 A B n x.toNat) (by rw [hl16]; omega))
      clear hl16
      obtain ⟨Ao47, co47, eo47⟩ := Kd.R_slice HO_16.out
      subst eo47
      go_wp2_with fail
      (with_reducible refine (bodkinref02_of.calls 100 _ _ (zl 8 A B n x.toNat) (ov (zl 8 A B n x.toNat)) _ ?side1 ?side2 OF.out).mono ?_)
      case side1 => repeat (first | exact (Kd.R_reads' HO_16.out).2.2 | (with_reducible refine Kd.C_alloc ?_ _) | (with_reducible refine Kd.C_drewN ?_ _) | (with_reducible refine Kd.C_drew ?_))
      case side2 => exact (Kd.R_reads' HO_16.out).2.1
      rintro e w' ⟨rfl, ⟨d6, rfl⟩⟩
      go_wp2_with fail
      go_ret2
      exact ⟨by rw [IN.out, LAST.out]; rfl, (by repeat (first | (with_reducible first | exact HB.out | apply below_alloc | apply pw_below_drewN | apply below_drew1) | exact HB.out))⟩


set_option maxHeartbeats 4000000 in
set_option maxRecDepth 100000 in
theorem rb9 (n a b : Int) (w : World) (h : R n) (a0 : 0 ≤ a) (a1 : a < 18446744073709551616) (b0 : 0 ≤ b) (b1 : b < 18446744073709551616) :
    Calls Tryd.prog 17 #[.int .i64 n, .int .i64 9, .int .u64 a, .int .u64 b] w fun e w' => e = .returned (.tuple #[.int .u64 (binI n 9 (a % pw n) (b % pw n)).1, .int .i64 (binI n 9 (a % pw n) (b % pw n)).2]) ∧ Below w.heap.size w w' := by
  have H := Lib.hid h
  have hn : 8 ≤ n ∧ n ≤ 64 := by unfold R at h; omega
  have ca := cut_bounds n a; have cb := cut_bounds n b; have hp := pw_pos n
  have ha := cut_c n a (h := h) (h0 := a0) (h1 := a1); have hb := cut_c n b (h := h) (h0 := b0) (h1 := b1)
  have sa := signed_c n (a % pw n) (h := h) (h0 := ca.1) (h1 := by omega); have sb := signed_c n (b % pw n) (h := h) (h0 := cb.1) (h1 := by omega)
  rw [cut_cut] at sa sb
  have HA := Lib.hid ha; have HB_ := Lib.hid hb; have SA := Lib.hid sa; have SB := Lib.hid sb
  have A0 : 0 ≤ a % pw n := ca.1
  have B0 : 0 ≤ b % pw n := cb.1
  have A1 : a % pw n < 18446744073709551616 := by omega
  have B1 : b % pw n < 18446744073709551616 := by omega
  have CA := Lib.hid ca.2; have CB := Lib.hid cb.2
  have LA := Lib.hid (rList 100 n (a % pw n) (by omega) (by omega) (by omega) A0 A1)
  have LB := Lib.hid (rList 100 n (b % pw n) (by omega) (by omega) (by omega) B0 B1)
  clear ha hb sa sb h ca cb hp
  generalize a % pw n = A at *
  generalize b % pw n = B at *
  have LAST := Lib.hid (zl_last n 9 A B H.out (by omega) A0 CA.out B0 CB.out)
  have Z0 := Lib.hid (zl_zero 9 A B n)
  generalize hX : sg n A = X at *
  generalize hY : sg n B = Y at *
  clear hX hY
  have HB := Aside0.mk (Below.refl w.heap.size w)
  go_enter Tryd.func17, Tryd.ntmps17
  go_wp2_with fail
  refine (right_c n _ H.out).mono ?_
  rintro e w' ⟨rfl, ⟨d1, rfl⟩⟩
  go_wp2_with fail
  refine (HA.out _).mono ?_
  rintro e w' ⟨rfl, ⟨d2, rfl⟩⟩
  go_wp2_with fail
  refine (HB_.out _).mono ?_
  rintro e w' ⟨rfl, ⟨d3, rfl⟩⟩
  go_wp2_with fail
  refine (SA.out _).mono ?_
  rintro e w' ⟨rfl, ⟨d4, rfl⟩⟩
  go_wp2_with fail
  refine (SB.out _).mono ?_
  rintro e w' ⟨rfl, ⟨d5, rfl⟩⟩
  go_wp2_with fail
  (with_reducible refine (bodkinref02_list.calls 100 n A (bl n.toNat A) _ LA.out).mono ?_)
  rintro e w39 ⟨v199, rfl, ho0, hb⟩
  have n0_ := Aside0.mk (Kd.R_lower ho0 (below_size (by repeat (first | (with_reducible first | exact HB.out | apply below_alloc | apply pw_below_drewN | apply below_drew1) | exact HB.out))))
  have n1_ := Aside0.mk (below_step (by repeat (first | (with_reducible first | exact HB.out | apply below_alloc | apply pw_below_drewN | apply below_drew1) | exact HB.out)) hb)
  clear HB hb ho0
  have HO200 := n0_
  have HB := n1_
  clear n0_ n1_
  go_wp2_with fail
  (with_reducible refine (bodkinref02_list.calls 100 n B (bl n.toNat B) _ LB.out).mono ?_)
  rintro e w40 ⟨v202, rfl, ho0, hb⟩
  have n0_ := Aside0.mk (Kd.R_elder' (by (with_reducible repeat (first | apply Kd.R_alloc | apply Kd.R_drewN | apply Kd.R_drew)); exact HO200.out) (Kd.R_base ho0) hb)
  have n1_ := Aside0.mk (Kd.R_lower (Kd.R_new' ho0 (Kd.R_lt (by (with_reducible repeat (first | apply Kd.R_alloc | apply Kd.R_drewN | apply Kd.R_drew)); exact HO200.out))) (below_size (by repeat (first | (with_reducible first | exact HB.out | apply below_alloc | apply pw_below_drewN | apply below_drew1) | exact HB.out))))
  have n2_ := Aside0.mk (below_step (by repeat (first | (with_reducible first | exact HB.out | apply below_alloc | apply pw_below_drewN | apply below_drew1) | exact HB.out)) hb)
  clear HO200 HB hb ho0
  have HO200 := n0_
  have HO203 := n1_
  have HB := n2_
  clear n0_ n1_ n2_
  go_wp2_with fail
  go_loopw [18] (fun v18 wr => ∃ x : Int, 0 ≤ x ∧ x ≤ n ∧ v18 = .int .i64 x ∧ Aside0 (Kd.R (Kd.int .u64) 22 wr w.heap.size (fun k_ => some k_ ≠ (v202 : Value).ownBlock) v199 (zl 9 A B n x.toNat)) ∧ Aside0 (Kd.R (Kd.int .u64) 22 wr w.heap.size (fun k_ => some k_ ≠ (v199 : Value).ownBlock) v202 (bl n.toNat B)) ∧ Aside0 (Below w.heap.size w wr)) (fun v18 _ => (n - intOf v18).toNat)
  case atStart => exact ⟨0, by omega, by omega, rfl, ⟨by rw [show (0 : Int).toNat = 0 from rfl, Z0.out]; (with_reducible repeat (first | apply Kd.R_alloc | apply Kd.R_drewN | apply Kd.R_drew)); exact Kd.R_mono HO200.out (fun _ hk => hk.2)⟩, ⟨by (with_reducible repeat (first | apply Kd.R_alloc | apply Kd.R_drewN | apply Kd.R_drew)); exact Kd.R_mono HO203.out (fun _ hk => hk.2)⟩, ⟨(by repeat (first | (with_reducible first | exact HB.out | apply below_alloc | apply pw_below_drewN | apply below_drew1) | exact HB.out))⟩⟩
  case round =>
    clear HO200 HO203
    obtain ⟨x, hx0, hi, rfl, HO_16, HO_17, HB⟩ := hrel
    by_cases hlt : x < n
    · have hl16 : ((zl 9 A B n x.toNat).length : Int) = n := by rw [zl_length _ _ _ _ _ (by omega)]; omega
      have hl17 : ((bl n.toNat B).length : Int) = n := by rw [bl_length]; omega
      have rA := Lib.hid (zl_atx 9 A B n x hx0 hlt)
      have rB := Lib.hid (bl_atx B n x hx0 hlt)
      have ZS := fun v (hv : v = gb 9 (bitAt A x.toNat) (bitAt B x.toNat)) => zl_setx 9 A B n x v hx0 hlt hv
      have ZT := fun u v (hv : v = gb 9 (bitAt A x.toNat) (bitAt B x.toNat)) => zl_setx2 9 A B n x u v hx0 hlt hv
      have ZS := Lib.hid ZS
      have ZT := Lib.hid ZT
      obtain ⟨Ao47, co47, eo47⟩ := Kd.R_slice HO_16.out
      subst eo47
      have p204 : 0 ≤ x := hx0
      have q204 : x < ((zl 9 A B n x.toNat).length : Int) := by omega
      obtain ⟨ad204, e204, hx204_0⟩ := Kd.at_int (Kd.R_reads' HO_16.out).2.2 x p204 q204
      cases e204
      obtain ⟨Ao48, co48, eo48⟩ := Kd.R_slice HO_17.out
      subst eo48
      have q205 : x < ((bl n.toNat B).length : Int) := by omega
      obtain ⟨ad205, e205, hx205_0⟩ := Kd.at_int (Kd.R_reads' HO_17.out).2.2 x p204 q205
      cases e205
      obtain ⟨go45, co45, eo45, gb45, gl45, cl45, HG45⟩ := Kd.R_form HO_16.out (by omega)
      (first | cases eo45 | (injection eo45 with ea_ en_ ec_; (first | subst ea_ | (injection ea_ with ea_; subst ea_)); subst ec_; clear en_))
      have GB45 := Aside0.mk gb45
      have GG45 := Aside0.mk HG45
      clear gb45 gl45 HG45
      (first | simp only [add_plain] at hx204_0 | skip)
      obtain ⟨hx45_0, hf45_0⟩ := Kd.R_celln 0 HO_16.out x p204 q204
      rw [rA.out] at hx204_0
      rw [show rdOf 0 (zl 9 A B n x.toNat) x = bitAt A x.toNat from rA.out] at hx45_0
      rw [rB.out] at hx205_0
      have gA := bitAt_range A x.toNat
      have gB := bitAt_range B x.toNat
      have hl1 := Lib.hid hl16
      have hl2 := Lib.hid hl17
      clear hl16 hl17
      have P204 := Lib.hid p204
      replace p204 := eq_true p204
      replace q204 := eq_true q204
      replace q205 := eq_true q205
      have HP := Kd.R_putg HO_16.out x 0
      rcases (show bitAt A x.toNat = 0 ∨ bitAt A x.toNat = 1 by omega) with hα | hα <;> rcases (show bitAt B x.toNat = 0 ∨ bitAt B x.toNat = 1 by omega) with hβ | hβ
      · rw [hα] at hx204_0 hx45_0 ZS ZT
        rw [hβ] at hx205_0 ZS ZT
        clear hα hβ gA gB rA rB HP
        go_upto_region 38 with (fail)
        go_quiet (fail)
        go_wp2_with fail
        go_roundw
        case measure => simp [intOf]; omega
        case rel =>
          refine ⟨x + 1, by omega, by omega, by go_num, ⟨?_⟩, ⟨?_⟩, ⟨?_⟩⟩
          · rw [← ZS.out 0 rfl]
            refine (Kd.R_putg ?_ x 0).1
            (with_reducible repeat (first | apply Kd.R_alloc | apply Kd.R_drewN | apply Kd.R_drew))
            exact HO_16.out
          · refine Kd.R_mono (Kd.R_after (v := (.slice (some ⟨go45, 0, none⟩) (zl 9 A B n x.toNat).length co47)) (v1 := (.slice (some ⟨go45, 0, none⟩) (zl 9 A B n x.toNat).length co47)) (ok := (fun _ => True)) ?_ (Kd.R_putg (Kd.R_drewN HO_16.out _) x 0).2 (.inl rfl)) (fun _ hk => hk.2)
            (with_reducible repeat (first | apply Kd.R_alloc | apply Kd.R_drewN | apply Kd.R_drew))
            exact Kd.R_mono HO_17.out (fun _ hk => ⟨trivial, hk⟩)
          · exact below_set (by repeat (first | (with_reducible first | exact HB.out | apply below_alloc | apply pw_below_drewN | apply below_drew1) | exact HB.out)) GB45.out
      · rw [hα] at hx204_0 hx45_0 ZS ZT
        rw [hβ] at hx205_0 ZS ZT
        clear hα hβ gA gB rA rB HP
        go_upto_region 38 with (fail)
        go_quiet (fail)
        go_wp2_with fail
        go_roundw
        case measure => simp [intOf]; omega
        case rel =>
          refine ⟨x + 1, by omega, by omega, by go_num, ⟨?_⟩, ⟨?_⟩, ⟨?_⟩⟩
          · rw [← ZT.out 0 1 rfl]
            refine (Kd.R_putg (Kd.R_putg ?_ x 0).1 x 1).1
            (with_reducible repeat (first | apply Kd.R_alloc | apply Kd.R_drewN | apply Kd.R_drew))
            exact HO_16.out
          · refine Kd.R_mono (Kd.R_after (v := (.slice (some ⟨go45, 0, none⟩) (zl 9 A B n x.toNat).length co47)) (v1 := (.slice (some ⟨go45, 0, none⟩) (zl 9 A B n x.toNat).length co47)) (ok := (fun _ => True)) (Kd.R_mono (Kd.R_after (v := (.slice (some ⟨go45, 0, none⟩) (zl 9 A B n x.toNat).length co47)) (v1 := (.slice (some ⟨go45, 0, none⟩) (zl 9 A B n x.toNat).length co47)) (ok := (fun _ => True)) ?_ (Kd.R_putg (Kd.R_drewN HO_16.out _) x 0).2 (.inl rfl)) (fun _ hk => ⟨trivial, hk.2⟩)) (Kd.R_putg (Kd.R_putg (Kd.R_drewN HO_16.out _) x 0).1 x 1).2 (.inl rfl)) (fun _ hk => hk.2)
            (with_reducible repeat (first | apply Kd.R_alloc | apply Kd.R_drewN | apply Kd.R_drew))
            exact Kd.R_mono HO_17.out (fun _ hk => ⟨trivial, hk⟩)
          · exact below_set (below_set (by repeat (first | (with_reducible first | exact HB.out | apply below_alloc | apply pw_below_drewN | apply below_drew1) | exact HB.out)) GB45.out) GB45.out
      · rw [hα] at hx204_0 hx45_0 ZS ZT
        rw [hβ] at hx205_0 ZS ZT
        clear hα hβ gA gB rA rB HP
        go_upto_region 38 with (fail)
        go_quiet (fail)
        go_wp2_with fail
        go_roundw
        case measure => simp [intOf]; omega
        case rel =>
          refine ⟨x + 1, by omega, by omega, by go_num, ⟨?_⟩, ⟨?_⟩, ⟨?_⟩⟩
          · rw [← ZT.out 0 1 rfl]
            refine (Kd.R_putg (Kd.R_putg ?_ x 0).1 x 1).1
            (with_reducible repeat (first | apply Kd.R_alloc | apply Kd.R_drewN | apply Kd.R_drew))
            exact HO_16.out
          · refine Kd.R_mono (Kd.R_after (v := (.slice (some ⟨go45, 0, none⟩) (zl 9 A B n x.toNat).length co47)) (v1 := (.slice (some ⟨go45, 0, none⟩) (zl 9 A B n x.toNat).length co47)) (ok := (fun _ => True)) (Kd.R_mono (Kd.R_after (v := (.slice (some ⟨go45, 0, none⟩) (zl 9 A B n x.toNat).length co47)) (v1 := (.slice (some ⟨go45, 0, none⟩) (zl 9 A B n x.toNat).length co47)) (ok := (fun _ => True)) ?_ (Kd.R_putg (Kd.R_drewN HO_16.out _) x 0).2 (.inl rfl)) (fun _ hk => ⟨trivial, hk.2⟩)) (Kd.R_putg (Kd.R_putg (Kd.R_drewN HO_16.out _) x 0).1 x 1).2 (.inl rfl)) (fun _ hk => hk.2)
            (with_reducible repeat (first | apply Kd.R_alloc | apply Kd.R_drewN | apply Kd.R_drew))
            exact Kd.R_mono HO_17.out (fun _ hk => ⟨trivial, hk⟩)
          · exact below_set (below_set (by repeat (first | (with_reducible first | exact HB.out | apply below_alloc | apply pw_below_drewN | apply below_drew1) | exact HB.out)) GB45.out) GB45.out
      · rw [hα] at hx204_0 hx45_0 ZS ZT
        rw [hβ] at hx205_0 ZS ZT
        clear hα hβ gA gB rA rB HP
        go_upto_region 38 with (fail)
        go_quiet (fail)
        go_wp2_with fail
        go_roundw
        case measure => simp [intOf]; omega
        case rel =>
          refine ⟨x + 1, by omega, by omega, by go_num, ⟨?_⟩, ⟨?_⟩, ⟨?_⟩⟩
          · rw [← ZT.out 0 1 rfl]
            refine (Kd.R_putg (Kd.R_putg ?_ x 0).1 x 1).1
            (with_reducible repeat (first | apply Kd.R_alloc | apply Kd.R_drewN | apply Kd.R_drew))
            exact HO_16.out
          · refine Kd.R_mono (Kd.R_after (v := (.slice (some ⟨go45, 0, none⟩) (zl 9 A B n x.toNat).length co47)) (v1 := (.slice (some ⟨go45, 0, none⟩) (zl 9 A B n x.toNat).length co47)) (ok := (fun _ => True)) (Kd.R_mono (Kd.R_after (v := (.slice (some ⟨go45, 0, none⟩) (zl 9 A B n x.toNat).length co47)) (v1 := (.slice (some ⟨go45, 0, none⟩) (zl 9 A B n x.toNat).length co47)) (ok := (fun _ => True)) ?_ (Kd.R_putg (Kd.R_drewN HO_16.out _) x 0).2 (.inl rfl)) (fun _ hk => ⟨trivial, hk.2⟩)) (Kd.R_putg (Kd.R_putg (Kd.R_drewN HO_16.out _) x 0).1 x 1).2 (.inl rfl)) (fun _ hk => hk.2)
            (with_reducible repeat (first | apply Kd.R_alloc | apply Kd.R_drewN | apply Kd.R_drew))
            exact Kd.R_mono HO_17.out (fun _ hk => ⟨trivial, hk⟩)
          · exact below_set (below_set (by repeat (first | (with_reducible first | exact HB.out | apply below_alloc | apply pw_below_drewN | apply below_drew1) | exact HB.out)) GB45.out) GB45.out
    · have IN := Lib.hid (show x.toNat = n.toNat by omega)
      have hl16 := zl_length 9 A B n x.toNat (by omega)
      have OF := Lib.hid (rOf 100 (zl 9 A B n x.toNat) (by omega) (zl_bits 9 A B n x.toNat) (by rw [hl16]; omega))
      clear hl16
      obtain ⟨Ao47, co47, eo47⟩ := Kd.R_slice HO_16.out
      subst eo47
      go_wp2_with fail
      (with_reducible refine (bodkinref02_of.calls 100 _ _ (zl 9 A B n x.toNat) (ov (zl 9 A B n x.toNat)) _ ?side1 ?side2 OF.out).mono ?_)
      case side1 => repeat (first | exact (Kd.R_reads' HO_16.out).2.2 | (with_reducible refine Kd.C_alloc ?_ _) | (with_reducible refine Kd.C_drewN ?_ _) | (with_reducible refine Kd.C_drew ?_))
      case side2 => exact (Kd.R_reads' HO_16.out).2.1
      rintro e w' ⟨rfl, ⟨d6, rfl⟩⟩
      go_wp2_with fail
      go_ret2
      exact ⟨by rw [IN.out, LAST.out]; rfl, (by repeat (first | (with_reducible first | exact HB.out | apply below_alloc | apply pw_below_drewN | apply below_drew1) | exact HB.out))⟩


set_option maxHeartbeats 4000000 in
set_option maxRecDepth 100000 in
theorem rb10 (n a b : Int) (w : World) (h : R n) (a0 : 0 ≤ a) (a1 : a < 18446744073709551616) (b0 : 0 ≤ b) (b1 : b < 18446744073709551616) :
    Calls Tryd.prog 17 #[.int .i64 n, .int .i64 10, .int .u64 a, .int .u64 b] w fun e w' => e = .returned (.tuple #[.int .u64 (binI n 10 (a % pw n) (b % pw n)).1, .int .i64 (binI n 10 (a % pw n) (b % pw n)).2]) ∧ Below w.heap.size w w' := by
  have H := Lib.hid h
  have hn : 8 ≤ n ∧ n ≤ 64 := by unfold R at h; omega
  have ca := cut_bounds n a; have cb := cut_bounds n b; have hp := pw_pos n
  have ha := cut_c n a (h := h) (h0 := a0) (h1 := a1); have hb := cut_c n b (h := h) (h0 := b0) (h1 := b1)
  have sa := signed_c n (a % pw n) (h := h) (h0 := ca.1) (h1 := by omega); have sb := signed_c n (b % pw n) (h := h) (h0 := cb.1) (h1 := by omega)
  rw [cut_cut] at sa sb
  have HA := Lib.hid ha; have HB_ := Lib.hid hb; have SA := Lib.hid sa; have SB := Lib.hid sb
  have A0 : 0 ≤ a % pw n := ca.1
  have B0 : 0 ≤ b % pw n := cb.1
  have A1 : a % pw n < 18446744073709551616 := by omega
  have B1 : b % pw n < 18446744073709551616 := by omega
  have CA := Lib.hid ca.2; have CB := Lib.hid cb.2
  have LA := Lib.hid (rList 100 n (a % pw n) (by omega) (by omega) (by omega) A0 A1)
  have LB := Lib.hid (rList 100 n (b % pw n) (by omega) (by omega) (by omega) B0 B1)
  clear ha hb sa sb h ca cb hp
  generalize a % pw n = A at *
  generalize b % pw n = B at *
  have LAST := Lib.hid (zl_last n 10 A B H.out (by omega) A0 CA.out B0 CB.out)
  have Z0 := Lib.hid (zl_zero 10 A B n)
  generalize hX : sg n A = X at *
  generalize hY : sg n B = Y at *
  clear hX hY
  have HB := Aside0.mk (Below.refl w.heap.size w)
  go_enter Tryd.func17, Tryd.ntmps17
  go_wp2_with fail
  refine (right_c n _ H.out).mono ?_
  rintro e w' ⟨rfl, ⟨d1, rfl⟩⟩
  go_wp2_with fail
  refine (HA.out _).mono ?_
  rintro e w' ⟨rfl, ⟨d2, rfl⟩⟩
  go_wp2_with fail
  refine (HB_.out _).mono ?_
  rintro e w' ⟨rfl, ⟨d3, rfl⟩⟩
  go_wp2_with fail
  refine (SA.out _).mono ?_
  rintro e w' ⟨rfl, ⟨d4, rfl⟩⟩
  go_wp2_with fail
  refine (SB.out _).mono ?_
  rintro e w' ⟨rfl, ⟨d5, rfl⟩⟩
  go_wp2_with fail
  (with_reducible refine (bodkinref02_list.calls 100 n A (bl n.toNat A) _ LA.out).mono ?_)
  rintro e w39 ⟨v199, rfl, ho0, hb⟩
  have n0_ := Aside0.mk (Kd.R_lower ho0 (below_size (by repeat (first | (with_reducible first | exact HB.out | apply below_alloc | apply pw_below_drewN | apply below_drew1) | exact HB.out))))
  have n1_ := Aside0.mk (below_step (by repeat (first | (with_reducible first | exact HB.out | apply below_alloc | apply pw_below_drewN | apply below_drew1) | exact HB.out)) hb)
  clear HB hb ho0
  have HO200 := n0_
  have HB := n1_
  clear n0_ n1_
  go_wp2_with fail
  (with_reducible refine (bodkinref02_list.calls 100 n B (bl n.toNat B) _ LB.out).mono ?_)
  rintro e w40 ⟨v202, rfl, ho0, hb⟩
  have n0_ := Aside0.mk (Kd.R_elder' (by (with_reducible repeat (first | apply Kd.R_alloc | apply Kd.R_drewN | apply Kd.R_drew)); exact HO200.out) (Kd.R_base ho0) hb)
  have n1_ := Aside0.mk (Kd.R_lower (Kd.R_new' ho0 (Kd.R_lt (by (with_reducible repeat (first | apply Kd.R_alloc | apply Kd.R_drewN | apply Kd.R_drew)); exact HO200.out))) (below_size (by repeat (first | (with_reducible first | exact HB.out | apply below_alloc | apply pw_below_drewN | apply below_drew1) | exact HB.out))))
  have n2_ := Aside0.mk (below_step (by repeat (first | (with_reducible first | exact HB.out | apply below_alloc | apply pw_below_drewN | apply below_drew1) | exact HB.out)) hb)
  clear HO200 HB hb ho0
  have HO200 := n0_
  have HO203 := n1_
  have HB := n2_
  clear n0_ n1_ n2_
  go_wp2_with fail
  go_loopw [18] (fun v18 wr => ∃ x : Int, 0 ≤ x ∧ x ≤ n ∧ v18 = .int .i64 x ∧ Aside0 (Kd.R (Kd.int .u64) 22 wr w.heap.size (fun k_ => some k_ ≠ (v202 : Value).ownBlock) v199 (zl 10 A B n x.toNat)) ∧ Aside0 (Kd.R (Kd.int .u64) 22 wr w.heap.size (fun k_ => some k_ ≠ (v199 : Value).ownBlock) v202 (bl n.toNat B)) ∧ Aside0 (Below w.heap.size w wr)) (fun v18 _ => (n - intOf v18).toNat)
  case atStart => exact ⟨0, by omega, by omega, rfl, ⟨by rw [show (0 : Int).toNat = 0 from rfl, Z0.out]; (with_reducible repeat (first | apply Kd.R_alloc | apply Kd.R_drewN | apply Kd.R_drew)); exact Kd.R_mono HO200.out (fun _ hk => hk.2)⟩, ⟨by (with_reducible repeat (first | apply Kd.R_alloc | apply Kd.R_drewN | apply Kd.R_drew)); exact Kd.R_mono HO203.out (fun _ hk => hk.2)⟩, ⟨(by repeat (first | (with_reducible first | exact HB.out | apply below_alloc | apply pw_below_drewN | apply below_drew1) | exact HB.out))⟩⟩
  case round =>
    clear HO200 HO203
    obtain ⟨x, hx0, hi, rfl, HO_16, HO_17, HB⟩ := hrel
    by_cases hlt : x < n
    · have hl16 : ((zl 10 A B n x.toNat).length : Int) = n := by rw [zl_length _ _ _ _ _ (by omega)]; omega
      have hl17 : ((bl n.toNat B).length : Int) = n := by rw [bl_length]; omega
      have rA := Lib.hid (zl_atx 10 A B n x hx0 hlt)
      have rB := Lib.hid (bl_atx B n x hx0 hlt)
      have ZS := fun v (hv : v = gb 10 (bitAt A x.toNat) (bitAt B x.toNat)) => zl_setx 10 A B n x v hx0 hlt hv
      have ZT := fun u v (hv : v = gb 10 (bitAt A x.toNat) (bitAt B x.toNat)) => zl_setx2 10 A B n x u v hx0 hlt hv
      have ZS := Lib.hid ZS
      have ZT := Lib.hid ZT
      obtain ⟨Ao47, co47, eo47⟩ := Kd.R_slice HO_16.out
      subst eo47
      have p204 : 0 ≤ x := hx0
      have q204 : x < ((zl 10 A B n x.toNat).length : Int) := by omega
      obtain ⟨ad204, e204, hx204_0⟩ := Kd.at_int (Kd.R_reads' HO_16.out).2.2 x p204 q204
      cases e204
      obtain ⟨Ao48, co48, eo48⟩ := Kd.R_slice HO_17.out
      subst eo48
      have q205 : x < ((bl n.toNat B).length : Int) := by omega
      obtain ⟨ad205, e205, hx205_0⟩ := Kd.at_int (Kd.R_reads' HO_17.out).2.2 x p204 q205
      cases e205
      obtain ⟨go45, co45, eo45, gb45, gl45, cl45, HG45⟩ := Kd.R_form HO_16.out (by omega)
      (first | cases eo45 | (injection eo45 with ea_ en_ ec_; (first | subst ea_ | (injection ea_ with ea_; subst ea_)); subst ec_; clear en_))
      have GB45 := Aside0.mk gb45
      have GG45 := Aside0.mk HG45
      clear gb45 gl45 HG45
      (first | simp only [add_plain] at hx204_0 | skip)
      obtain ⟨hx45_0, hf45_0⟩ := Kd.R_celln 0 HO_16.out x p204 q204
      rw [rA.out] at hx204_0
      rw [show rdOf 0 (zl 10 A B n x.toNat) x = bitAt A x.toNat from rA.out] at hx45_0
      rw [rB.out] at hx205_0
      have gA := bitAt_range A x.toNat
      have gB := bitAt_range B x.toNat
      have hl1 := Lib.hid hl16
      have hl2 := Lib.hid hl17
      clear hl16 hl17
      have P204 := Lib.hid p204
      replace p204 := eq_true p204
      replace q204 := eq_true q204
      replace q205 := eq_true q205
      have HP := Kd.R_putg HO_16.out x 0
      rcases (show bitAt A x.toNat = 0 ∨ bitAt A x.toNat = 1 by omega) with hα | hα <;> rcases (show bitAt B x.toNat = 0 ∨ bitAt B x.toNat = 1 by omega) with hβ | hβ
      · rw [hα] at hx204_0 hx45_0 ZS ZT
        rw [hβ] at hx205_0 ZS ZT
        clear hα hβ gA gB rA rB HP
        go_upto_region 38 with (fail)
        go_quiet (fail)
        go_wp2_with fail
        go_roundw
        case measure => simp [intOf]; omega
        case rel =>
          refine ⟨x + 1, by omega, by omega, by go_num, ⟨?_⟩, ⟨?_⟩, ⟨?_⟩⟩
          · rw [← ZS.out 0 rfl]
            refine (Kd.R_putg ?_ x 0).1
            (with_reducible repeat (first | apply Kd.R_alloc | apply Kd.R_drewN | apply Kd.R_drew))
            exact HO_16.out
          · refine Kd.R_mono (Kd.R_after (v := (.slice (some ⟨go45, 0, none⟩) (zl 10 A B n x.toNat).length co47)) (v1 := (.slice (some ⟨go45, 0, none⟩) (zl 10 A B n x.toNat).length co47)) (ok := (fun _ => True)) ?_ (Kd.R_putg (Kd.R_drewN HO_16.out _) x 0).2 (.inl rfl)) (fun _ hk => hk.2)
            (with_reducible repeat (first | apply Kd.R_alloc | apply Kd.R_drewN | apply Kd.R_drew))
            exact Kd.R_mono HO_17.out (fun _ hk => ⟨trivial, hk⟩)
          · exact below_set (by repeat (first | (with_reducible first | exact HB.out | apply below_alloc | apply pw_below_drewN | apply below_drew1) | exact HB.out)) GB45.out
      · rw [hα] at hx204_0 hx45_0 ZS ZT
        rw [hβ] at hx205_0 ZS ZT
        clear hα hβ gA gB rA rB HP
        go_upto_region 38 with (fail)
        go_quiet (fail)
        go_wp2_with fail
        go_roundw
        case measure => simp [intOf]; omega
        case rel =>
          refine ⟨x + 1, by omega, by omega, by go_num, ⟨?_⟩, ⟨?_⟩, ⟨?_⟩⟩
          · rw [← ZT.out 0 1 rfl]
            refine (Kd.R_putg (Kd.R_putg ?_ x 0).1 x 1).1
            (with_reducible repeat (first | apply Kd.R_alloc | apply Kd.R_drewN | apply Kd.R_drew))
            exact HO_16.out
          · refine Kd.R_mono (Kd.R_after (v := (.slice (some ⟨go45, 0, none⟩) (zl 10 A B n x.toNat).length co47)) (v1 := (.slice (some ⟨go45, 0, none⟩) (zl 10 A B n x.toNat).length co47)) (ok := (fun _ => True)) (Kd.R_mono (Kd.R_after (v := (.slice (some ⟨go45, 0, none⟩) (zl 10 A B n x.toNat).length co47)) (v1 := (.slice (some ⟨go45, 0, none⟩) (zl 10 A B n x.toNat).length co47)) (ok := (fun _ => True)) ?_ (Kd.R_putg (Kd.R_drewN HO_16.out _) x 0).2 (.inl rfl)) (fun _ hk => ⟨trivial, hk.2⟩)) (Kd.R_putg (Kd.R_putg (Kd.R_drewN HO_16.out _) x 0).1 x 1).2 (.inl rfl)) (fun _ hk => hk.2)
            (with_reducible repeat (first | apply Kd.R_alloc | apply Kd.R_drewN | apply Kd.R_drew))
            exact Kd.R_mono HO_17.out (fun _ hk => ⟨trivial, hk⟩)
          · exact below_set (below_set (by repeat (first | (with_reducible first | exact HB.out | apply below_alloc | apply pw_below_drewN | apply below_drew1) | exact HB.out)) GB45.out) GB45.out
      · rw [hα] at hx204_0 hx45_0 ZS ZT
        rw [hβ] at hx205_0 ZS ZT
        clear hα hβ gA gB rA rB HP
        go_upto_region 38 with (fail)
        go_quiet (fail)
        go_wp2_with fail
        go_roundw
        case measure => simp [intOf]; omega
        case rel =>
          refine ⟨x + 1, by omega, by omega, by go_num, ⟨?_⟩, ⟨?_⟩, ⟨?_⟩⟩
          · rw [← ZT.out 0 1 rfl]
            refine (Kd.R_putg (Kd.R_putg ?_ x 0).1 x 1).1
            (with_reducible repeat (first | apply Kd.R_alloc | apply Kd.R_drewN | apply Kd.R_drew))
            exact HO_16.out
          · refine Kd.R_mono (Kd.R_after (v := (.slice (some ⟨go45, 0, none⟩) (zl 10 A B n x.toNat).length co47)) (v1 := (.slice (some ⟨go45, 0, none⟩) (zl 10 A B n x.toNat).length co47)) (ok := (fun _ => True)) (Kd.R_mono (Kd.R_after (v := (.slice (some ⟨go45, 0, none⟩) (zl 10 A B n x.toNat).length co47)) (v1 := (.slice (some ⟨go45, 0, none⟩) (zl 10 A B n x.toNat).length co47)) (ok := (fun _ => True)) ?_ (Kd.R_putg (Kd.R_drewN HO_16.out _) x 0).2 (.inl rfl)) (fun _ hk => ⟨trivial, hk.2⟩)) (Kd.R_putg (Kd.R_putg (Kd.R_drewN HO_16.out _) x 0).1 x 1).2 (.inl rfl)) (fun _ hk => hk.2)
            (with_reducible repeat (first | apply Kd.R_alloc | apply Kd.R_drewN | apply Kd.R_drew))
            exact Kd.R_mono HO_17.out (fun _ hk => ⟨trivial, hk⟩)
          · exact below_set (below_set (by repeat (first | (with_reducible first | exact HB.out | apply below_alloc | apply pw_below_drewN | apply below_drew1) | exact HB.out)) GB45.out) GB45.out
      · rw [hα] at hx204_0 hx45_0 ZS ZT
        rw [hβ] at hx205_0 ZS ZT
        clear hα hβ gA gB rA rB HP
        go_upto_region 38 with (fail)
        go_quiet (fail)
        go_wp2_with fail
        go_roundw
        case measure => simp [intOf]; omega
        case rel =>
          refine ⟨x + 1, by omega, by omega, by go_num, ⟨?_⟩, ⟨?_⟩, ⟨?_⟩⟩
          · rw [← ZS.out 0 rfl]
            refine (Kd.R_putg ?_ x 0).1
            (with_reducible repeat (first | apply Kd.R_alloc | apply Kd.R_drewN | apply Kd.R_drew))
            exact HO_16.out
          · refine Kd.R_mono (Kd.R_after (v := (.slice (some ⟨go45, 0, none⟩) (zl 10 A B n x.toNat).length co47)) (v1 := (.slice (some ⟨go45, 0, none⟩) (zl 10 A B n x.toNat).length co47)) (ok := (fun _ => True)) ?_ (Kd.R_putg (Kd.R_drewN HO_16.out _) x 0).2 (.inl rfl)) (fun _ hk => hk.2)
            (with_reducible repeat (first | apply Kd.R_alloc | apply Kd.R_drewN | apply Kd.R_drew))
            exact Kd.R_mono HO_17.out (fun _ hk => ⟨trivial, hk⟩)
          · exact below_set (by repeat (first | (with_reducible first | exact HB.out | apply below_alloc | apply pw_below_drewN | apply below_drew1) | exact HB.out)) GB45.out
    · have IN := Lib.hid (show x.toNat = n.toNat by omega)
      have hl16 := zl_length 10 A B n x.toNat (by omega)
      have OF := Lib.hid (rOf 100 (zl 10 A B n x.toNat) (by omega) (zl_bits 10 A B n x.toNat) (by rw [hl16]; omega))
      clear hl16
      obtain ⟨Ao47, co47, eo47⟩ := Kd.R_slice HO_16.out
      subst eo47
      go_wp2_with fail
      (with_reducible refine (bodkinref02_of.calls 100 _ _ (zl 10 A B n x.toNat) (ov (zl 10 A B n x.toNat)) _ ?side1 ?side2 OF.out).mono ?_)
      case side1 => repeat (first | exact (Kd.R_reads' HO_16.out).2.2 | (with_reducible refine Kd.C_alloc ?_ _) | (with_reducible refine Kd.C_drewN ?_ _) | (with_reducible refine Kd.C_drew ?_))
      case side2 => exact (Kd.R_reads' HO_16.out).2.1
      rintro e w' ⟨rfl, ⟨d6, rfl⟩⟩
      go_wp2_with fail
      go_ret2
      exact ⟨by rw [IN.out, LAST.out]; rfl, (by repeat (first | (with_reducible first | exact HB.out | apply below_alloc | apply pw_below_drewN | apply below_drew1) | exact HB.out))⟩

end Go.Proofs.YtajmjmnlapplaaaDoor.RB
