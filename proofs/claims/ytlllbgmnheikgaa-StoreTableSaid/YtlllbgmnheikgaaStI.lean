/-
  The walks of a table's Get, and of tables that are none; awake (store).
-/
import Derived.Test.YtlllbgmnheikgaaStH
namespace Go.Proofs.Ytlllbgmnheikgaa.St
set_option linter.unusedVariables false
set_option linter.unusedSimpArgs false
open Go.RowKit Go.Proofs.YtlllbgmnheikgaaW.PrintWords Go.Proofs.Ytlllbgmnheikgaa.PStoreNone

set_option maxRecDepth 100000 in
theorem get_ok (w : World) (base g : Nat) (rf mn mx : Int) (hs : Bool) (g2 : Nat) (c : Nat) (W : Nat) (xs : List Value) (H : TblI w base g rf mn mx hs (.slice (some ⟨g2, 0, none⟩) W c) W xs) (i : Nat) (hi : i < W) (t lo hi' : Int) (nu : Bool)
    (h0 : xs[i * 4]? = some (.int .i64 t)) (h1 : xs[i * 4 + 1]? = some (.int .u64 lo)) (h2 : xs[i * 4 + 2]? = some (.int .u64 hi')) (h3 : xs[i * 4 + 3]? = some (.bool nu)) :
    Calls Try.prog 28 #[.pointer (some ⟨g, 0, none⟩), .int .u64 (i : Int)] w fun e w' => e = .returned (.tuple #[.agg #[.int .i64 t, .int .u64 lo, .int .u64 hi', .bool nu], .int .i64 0]) ∧ Below w.heap.size w w' := by
  have HH := Lib.hid H
  have hlen := H.len
  have hin : inB i 1 W = true := by unfold inB; rw [decide_eq_true_eq]; omega
  have HIN := Lib.hid hin
  have cc := fun (w' : World) (hb : Below w.heap.size w w') => (H.below hb).own.cells (g := g2) rfl
  have a0 := fun w' hb => cc w' hb _ _ h0
  have a1 := fun w' hb => cc w' hb _ _ h1
  have a2 := fun w' hb => cc w' hb _ _ h2
  have a3 := fun w' hb => cc w' hb _ _ h3
  simp only [add_plain] at a0 a1 a2 a3
  have HA := Lib.hid (And.intro a0 (And.intro a1 (And.intro a2 a3)))
  clear H h0 h1 h2 h3 cc a0 a1 a2 a3 hin
  obtain ⟨wa, hwa⟩ : ∃ wa, wa = w.alloc (Obj.cells #[.int .i64 0, .int .u64 0, .int .u64 0, .bool false] 26) := ⟨_, rfl⟩
  have hba : Below w.heap.size w wa := by rw [hwa]; exact (Below.refl _ _).alloc (Nat.le_refl _) _
  have hv0 : wa.heap[w.heap.size]? = some (.cells #[.int .i64 0, .int .u64 0, .int .u64 0, .bool false] 26 (0, 0)) := by rw [hwa]; exact heap_alloc_new w _
  obtain ⟨pv, hpv⟩ : ∃ pv, pv = w.heap.size := ⟨_, rfl⟩
  rw [← hpv] at hv0
  have hcB := (HH.out.below hba).cellB
  have HBA := Lib.hid hba
  have HV := Lib.hid hv0
  have HPV := Lib.hid hpv
  go_enter Try.func28, Try.ntmps28
  go_upto_region 1 with fail
  rw [← hwa, ← hpv]
  clear hwa hpv hba hv0
  go_wp2_with (go_at_call 32; refine (in_b (i : Int) 1 W _ true HIN.out (by omega) (by omega)).mono ?_; rintro e w1 ⟨rfl, hb⟩; clear hcB; have HW := Lib.hid (HBA.out.trans (hb.mono HBA.out.size)); have hcB := (HH.out.below HW.out).cellB; have b0 := HA.out.1 w1 HW.out; have b1 := HA.out.2.1 w1 HW.out; have b2 := HA.out.2.2.1 w1 HW.out; have b3 := HA.out.2.2.2 w1 HW.out; have hv1 := (hb.block pv (blk_lt HV.out)).trans HV.out; have f0 := blk_frozen hv1 0; have f1 := blk_frozen hv1 1; have f2 := blk_frozen hv1 2; have f3 := blk_frozen hv1 3; have e0 := (blk_cell hv1 0).trans (show _ = some (Value.int .i64 0) from rfl); have e1 := (blk_cell hv1 1).trans (show _ = some (Value.int .u64 0) from rfl); have e2 := (blk_cell hv1 2).trans (show _ = some (Value.int .u64 0) from rfl); have e3 := (blk_cell hv1 3).trans (show _ = some (Value.bool false) from rfl); have HV1 := Lib.hid hv1; clear hb hv1)
  have hfin : ((((w1.setCell ⟨pv, 0, none⟩ (.int .i64 t)).setCell ⟨pv, 1, none⟩ (.int .u64 lo)).setCell ⟨pv, 2, none⟩ (.int .u64 hi')).setCell ⟨pv, 3, none⟩ (.bool nu)).heap[pv]? = some (.cells #[.int .i64 t, .int .u64 lo, .int .u64 hi', .bool nu] 26 (0, 0)) := by
    have h4 := blk_set (blk_set (blk_set (blk_set HV1.out 0 (.int .i64 t)) 1 (.int .u64 lo)) 2 (.int .u64 hi')) 3 (.bool nu)
    simpa using h4
  have hp : w.heap.size ≤ pv := by rw [HPV.out]; exact Nat.le_refl _
  refine bodyPost_ret (results_ct rfl _ _ pv 26 _ (0, 0) _ rfl hfin Try.underlying26 rfl size26) rfl ⟨rfl, ?_⟩
  exact (((HW.out.setCell (p := ⟨pv, 0, none⟩) hp _).setCell (p := ⟨pv, 1, none⟩) hp _).setCell (p := ⟨pv, 2, none⟩) hp _).setCell (p := ⟨pv, 3, none⟩) hp _
theorem get_nil (p : Int) (w : World) : Calls Try.prog 28 #[.pointer none, .int .u64 p] w fun e w' => e = .returned (.tuple #[zero4, .int .i64 1]) ∧ Below w.heap.size w w' := by
  obtain ⟨wa, hwa⟩ : ∃ wa, wa = w.alloc (Obj.cells #[.int .i64 0, .int .u64 0, .int .u64 0, .bool false] 26) := ⟨_, rfl⟩
  have hba : Below w.heap.size w wa := by rw [hwa]; exact (Below.refl _ _).alloc (Nat.le_refl _) _
  have hv1 : wa.heap[w.heap.size]? = some (.cells #[.int .i64 0, .int .u64 0, .int .u64 0, .bool false] 26 (0, 0)) := by rw [hwa]; exact heap_alloc_new w _
  obtain ⟨pv, hpv⟩ : ∃ pv, pv = w.heap.size := ⟨_, rfl⟩
  rw [← hpv] at hv1
  have HBA := Lib.hid hba
  have HV := Lib.hid hv1
  have HPV := Lib.hid hpv
  have f0 := blk_frozen hv1 0; have f1 := blk_frozen hv1 1; have f2 := blk_frozen hv1 2; have f3 := blk_frozen hv1 3
  have e0 := (blk_cell hv1 0).trans (show _ = some (Value.int .i64 0) from rfl); have e1 := (blk_cell hv1 1).trans (show _ = some (Value.int .u64 0) from rfl); have e2 := (blk_cell hv1 2).trans (show _ = some (Value.int .u64 0) from rfl); have e3 := (blk_cell hv1 3).trans (show _ = some (Value.bool false) from rfl)
  go_enter Try.func28, Try.ntmps28
  go_upto_region 1 with fail
  rw [← hwa, ← hpv]
  clear hwa hpv hba hv1
  go_wp2
  have hfin : ((((wa.setCell ⟨pv, 0, none⟩ (.int .i64 0)).setCell ⟨pv, 1, none⟩ (.int .u64 0)).setCell ⟨pv, 2, none⟩ (.int .u64 0)).setCell ⟨pv, 3, none⟩ (.bool false)).heap[pv]? = some (.cells #[.int .i64 0, .int .u64 0, .int .u64 0, .bool false] 26 (0, 0)) := by
    have h4 := blk_set (blk_set (blk_set (blk_set HV.out 0 (.int .i64 0)) 1 (.int .u64 0)) 2 (.int .u64 0)) 3 (.bool false)
    simpa using h4
  have hp : w.heap.size ≤ pv := by rw [HPV.out]; exact Nat.le_refl _
  refine bodyPost_ret (results_ct rfl _ _ pv 26 _ (0, 0) _ rfl hfin Try.underlying26 rfl size26) rfl ⟨rfl, ?_⟩
  exact (((HBA.out.setCell (p := ⟨pv, 0, none⟩) hp _).setCell (p := ⟨pv, 1, none⟩) hp _).setCell (p := ⟨pv, 2, none⟩) hp _).setCell (p := ⟨pv, 3, none⟩) hp _
theorem fillT_nil (p n : Int) (v : Value) (t lo hi : Int) (nu : Bool) (w : World) : Calls Try.prog 25 #[.pointer none, .int .u64 p, .agg #[.int .i64 t, .int .u64 lo, .int .u64 hi, .bool nu], .int .u64 n] w fun e w' => e = .returned (.int .i64 1) ∧ Below w.heap.size w w' := by
  go_enter Try.func25, Try.ntmps25
  go_wp2
  go_ret
  exact ⟨rfl, (Below.refl _ _).alloc (Nat.le_refl _) _⟩
theorem setT_nil (p : Int) (t lo hi : Int) (nu : Bool) (w : World) : Calls Try.prog 23 #[.pointer none, .int .u64 p, .agg #[.int .i64 t, .int .u64 lo, .int .u64 hi, .bool nu]] w fun e w' => e = .returned (.int .i64 1) ∧ Below w.heap.size w w' := by
  go_enter Try.func23, Try.ntmps23
  go_wp2_with (go_at_call 25; refine (fillT_nil _ _ (.bool true) _ _ _ _ _).mono ?_; rintro e w1 ⟨rfl, hb⟩; have HB := Lib.hid hb; clear hb)
  go_ret
  have h1 := (Below.refl w.heap.size w).alloc (Nat.le_refl _) (Obj.cells #[.int .i64 t, .int .u64 lo, .int .u64 hi, .bool nu] 26)
  exact ⟨rfl, h1.trans (HB.out.mono h1.size)⟩
theorem growT_nil (n : Int) (t lo hi : Int) (nu : Bool) (w : World) : Calls Try.prog 13 #[.pointer none, .int .u64 n, .agg #[.int .i64 t, .int .u64 lo, .int .u64 hi, .bool nu]] w fun e w' => e = .returned (.int .i64 0) ∧ Below w.heap.size w w' := by
  go_enter Try.func13, Try.ntmps13
  go_wp2
  go_ret
  exact ⟨rfl, (Below.refl _ _).alloc (Nat.le_refl _) _⟩
theorem initT_nil (p f n : Int) (s : Value) (w : World) : Calls Try.prog 27 #[.pointer none, .int .u64 p, .int .u64 f, .int .u64 n, s] w fun e w' => e = .returned (.int .i64 1) ∧ w' = w := by
  go_enter Try.func27, Try.ntmps27
  go_wp2
  go_ret
  exact ⟨rfl, rfl⟩
theorem copyT_nil (p f n : Int) (x : Value) (w : World) : Calls Try.prog 26 #[.pointer none, .int .u64 p, .int .u64 f, .int .u64 n, x] w fun e w' => e = .returned (.int .i64 1) ∧ w' = w := by
  go_enter Try.func26, Try.ntmps26
  go_wp2
  go_ret
  exact ⟨rfl, rfl⟩
theorem copyT_nil2 (g : Nat) (p f n : Int) (w : World) : Calls Try.prog 26 #[.pointer (some ⟨g, 0, none⟩), .int .u64 p, .int .u64 f, .int .u64 n, .pointer none] w fun e w' => e = .returned (.int .i64 1) ∧ w' = w := by
  go_enter Try.func26, Try.ntmps26
  go_wp2
  go_ret
  exact ⟨rfl, rfl⟩

theorem zero_c (t : Int) (w : World) : Calls Try.prog 29 #[.int .i64 t] w fun e w' => e = .returned (.agg #[.int .i64 t, .int .u64 0, .int .u64 0, .bool (t == 112 || t == 111)]) ∧ Below w.heap.size w w' := by
  refine store_Zero.calls t t 0 0 _ w ?_
  unfold store_Zero.f
  by_cases h : t = 112
  · rw [if_pos h]; simp [h]
  · rw [if_neg h]; simp [h]
theorem zeroR_c (t : Int) (w : World) : Calls Try.prog 30 #[.int .i64 t] w fun e w' => e = .returned (.agg #[.int .i64 t, .int .u64 0, .int .u64 0, .bool (t == 112 || t == 111)]) ∧ Below w.heap.size w w' := by
  refine bodkinref13_Zero.calls t t 0 0 _ w ?_
  unfold bodkinref13_Zero.f
  by_cases h : t = 112
  · rw [if_pos h]; simp [h]
  · rw [if_neg h]; simp [h]
end Go.Proofs.Ytlllbgmnheikgaa.St
