/-
  The walk of the law StoreNone: no condition.
-/
import Derived.Test.YtlllbgmnheikgaaStJ
namespace Go.Proofs.Ytlllbgmnheikgaa.St
set_option linter.unusedVariables false
set_option linter.unusedSimpArgs false
open Go.RowKit Go.Proofs.YtlllbgmnheikgaaW.PrintWords Go.Proofs.Ytlllbgmnheikgaa.PStoreNone

theorem get_nil' (p : Int) (w : World) : Calls Try.prog 28 #[.pointer none, .int .u64 p] w fun e w' => e = .returned (.tuple #[.agg #[.int .i64 0, .int .u64 0, .int .u64 0, .bool false], .int .i64 1]) ∧ Below w.heap.size w w' := get_nil p w
theorem blk_at {w0 w : World} {g : Nat} {o : Obj} (h : w0.heap[g]? = some o) (hb : Below w0.heap.size w0 w) : w.heap[g]? = some o := (hb.block g (blk_lt h)).trans h
theorem below_go {w0 w w' : World} (h : Below w0.heap.size w0 w) (hb : Below w.heap.size w w') : Below w0.heap.size w0 w' := h.trans (hb.mono h.size)
theorem below_al {w0 w : World} (h : Below w0.heap.size w0 w) (o : Obj) : Below w0.heap.size w0 (w.alloc o) := h.alloc h.size o
theorem four {w : World} {g : Nat} {a b c d : Value} (h : w.heap[g]? = some (.cells #[a, b, c, d] 26 (0, 0))) : w.cell? ⟨g, 0, none⟩ = some a ∧ w.cell? ⟨g, 1, none⟩ = some b ∧ w.cell? ⟨g, 2, none⟩ = some c ∧ w.cell? ⟨g, 3, none⟩ = some d :=
  ⟨(blk_cell h 0).trans rfl, (blk_cell h 1).trans rfl, (blk_cell h 2).trans rfl, (blk_cell h 3).trans rfl⟩
theorem eq26 (t lo hi : Int) (nu : Bool) (W : World) : (binOp .eql 26 (.agg #[.int .i64 t, .int .u64 lo, .int .u64 hi, .bool nu]) (.agg #[.int .i64 t, .int .u64 lo, .int .u64 hi, .bool nu])).run Try.prog W = .ok (.bool true) W := by
  have he : (Op.equalIn (9999 + 1) 26 (.agg #[.int .i64 t, .int .u64 lo, .int .u64 hi, .bool nu]) (.agg #[.int .i64 t, .int .u64 lo, .int .u64 hi, .bool nu])).run Try.prog W = .ok true W := by
    have h : (Op.equalIn (9999 + 1) 26 (.agg #[.int .i64 t, .int .u64 lo, .int .u64 hi, .bool nu]) (.agg #[.int .i64 t, .int .u64 lo, .int .u64 hi, .bool nu])).run Try.prog W = .ok (t == t && (lo == lo && (hi == hi && nu == nu))) W := by
      refine eqA_of Try.underlying26 (by kernel_rfl) ?_
      refine eqf_cons (by rfl) (by go_simp; rfl) (by go_simp; rfl) (by go_simp) ?_
      refine eqf_cons (by rfl) (by go_simp; rfl) (by go_simp; rfl) (by go_simp) ?_
      refine eqf_cons (by rfl) (by go_simp; rfl) (by go_simp; rfl) (by go_simp) ?_
      exact eqf_last (by rfl) (by go_simp; rfl) (by go_simp; rfl) (by go_simp)
    simpa using h
  simp only [binOp]
  simp [Op.equal, Op.maxDepth, he]
set_option maxHeartbeats 2000000 in
set_option maxRecDepth 100000 in
theorem none_law (t a n t2 lo hi : Int) (nu : Bool) (w : World) :
    Calls Try.prog 7 #[.int .i64 t, .int .u64 a, .int .u64 n, .agg #[.int .i64 t2, .int .u64 lo, .int .u64 hi, .bool nu]] w fun e w' => e = .returned (.bool true) ∧ Below w.heap.size w w' := by
  obtain ⟨wa, hwa⟩ : ∃ wa, wa = w.alloc (Obj.cells #[.int .i64 t2, .int .u64 lo, .int .u64 hi, .bool nu] 26) := ⟨_, rfl⟩
  have HA : Hid (Below w.heap.size w wa) := Lib.hid (by rw [hwa]; exact (Below.refl _ _).alloc (Nat.le_refl _) _)
  have hv : wa.heap[w.heap.size]? = some (.cells #[.int .i64 t2, .int .u64 lo, .int .u64 hi, .bool nu] 26 (0, 0)) := by rw [hwa]; exact heap_alloc_new w _
  obtain ⟨pv, hpv⟩ : ∃ pv, pv = w.heap.size := ⟨_, rfl⟩
  rw [← hpv] at hv
  have HV := Lib.hid hv
  clear hv
  go_enter Try.func7, Try.ntmps7
  go_upto_region 1 with fail
  rw [← hwa, ← hpv]
  clear hwa hpv
  go_upto_region 7 with (go_at_call 8; refine (awake_c _).mono ?_; rintro e w1 ⟨rfl, hb⟩; have H1 := Lib.hid hb; clear hb)
  have H2 := Lib.hid (below_al H1.out (.cells #[.int .i64 0, .int .i64 0, .int .i64 0, .bool false, .slice none 0 0] 41))
  generalize w1.alloc (Obj.cells #[.int .i64 0, .int .i64 0, .int .i64 0, .bool false, .slice none 0 0] 41) = w2 at H2 ⊢
  go_upto_region 9 with (first | (go_at_call 21; ((with_reducible refine (read_nil _ _ _).mono ?_)); rintro e w' ⟨rfl, rfl⟩) | (go_at_call 28; ((with_reducible refine (get_nil' _ _).mono ?_)); rintro e w3 ⟨rfl, hb⟩; have H3 := Lib.hid (below_go H2.out hb); clear hb))
  have H4 := Lib.hid (below_al H3.out (.cells #[.int .i64 0, .int .u64 0, .int .u64 0, .bool false] 26))
  generalize w3.alloc (Obj.cells #[.int .i64 0, .int .u64 0, .int .u64 0, .bool false] 26) = w4 at H4 ⊢
  go_upto_region 10 with (go_at_call 29; refine (zero_c _ _).mono ?_; rintro e w5 ⟨rfl, hb⟩; have H5 := Lib.hid (below_go H4.out hb); clear hb)
  have H6 := Lib.hid (below_al H5.out (.cells #[.int .i64 t, .int .u64 0, .int .u64 0, .bool (t == 112 || t == 111)] 26))
  have hz := blk_new w5 (.cells #[.int .i64 t, .int .u64 0, .int .u64 0, .bool (t == 112 || t == 111)] 26)
  generalize w5.alloc (Obj.cells #[.int .i64 t, .int .u64 0, .int .u64 0, .bool (t == 112 || t == 111)] 26) = w6 at H6 hz ⊢
  generalize w5.heap.size = pz at hz ⊢
  have HZ := Lib.hid hz
  clear hz
  go_upto_region 11 with (go_at_call 21; ((with_reducible refine (read_neg (.bool true) 0 (-1) _ (by decide) _).mono ?_)); rintro e w' ⟨rfl, rfl⟩)
  have H7 := Lib.hid (below_al H6.out (.cells #[.int .i64 0, .int .i64 0, .bool false, .slice none 0 0] 31))
  have hz6 : Below w6.heap.size w6 (w6.alloc (.cells #[.int .i64 0, .int .i64 0, .bool false, .slice none 0 0] 31)) := (Below.refl _ _).alloc (Nat.le_refl _) _
  have HZ7 := Lib.hid (blk_at (w := w6.alloc (.cells #[.int .i64 0, .int .i64 0, .bool false, .slice none 0 0] 31)) HZ.out hz6)
  clear hz6
  generalize w6.alloc (Obj.cells #[.int .i64 0, .int .i64 0, .bool false, .slice none 0 0] 31) = w7 at H7 HZ7 ⊢
  have hv7 := four (blk_at HV.out H7.out)
  obtain ⟨v0, v1, v2, v3⟩ := hv7
  go_upto_region 13 with (first | (go_at_call 15; refine (write_nil _ _ _ _ _ (by omega)).mono ?_; rintro e w' ⟨rfl, rfl⟩) | (go_at_call 17; refine (fill_nil _ _ _ _).mono ?_; rintro e w' ⟨rfl, rfl⟩) | (go_at_call 19; refine (copy_nil _ _ _ _).mono ?_; rintro e w' ⟨rfl, rfl⟩) | (go_at_call 20; refine (init_nil _ _ _ _ _).mono ?_; rintro e w' ⟨rfl, rfl⟩) | (go_at_call 10; refine (grow_nil _ _ _).mono ?_; rintro e w' ⟨rfl, rfl⟩))
  clear H1 H2 H3 H4 H5 H6 HZ
  go_upto_region 15 with (first | (go_at_call 23; refine (setT_nil _ _ _ _ _ _).mono ?_; rintro e w8 ⟨rfl, hb⟩; have H8 := Lib.hid (below_go H7.out hb); have HZ8 := Lib.hid (blk_at HZ7.out hb); clear v0 v1 v2 v3; obtain ⟨v0, v1, v2, v3⟩ := four (blk_at HV.out H8.out); clear hb) | (go_at_call 13; refine (growT_nil _ _ _ _ _ _).mono ?_; rintro e w9 ⟨rfl, hb⟩; have H9 := Lib.hid (below_go H8.out hb); have HZ9 := Lib.hid (blk_at HZ8.out hb); clear v0 v1 v2 v3; obtain ⟨v0, v1, v2, v3⟩ := four (blk_at HV.out H9.out); clear hb) | (go_at_call 25; refine (fillT_nil _ _ (.bool true) _ _ _ _ _).mono ?_; rintro e w10 ⟨rfl, hb⟩; have H10 := Lib.hid (below_go H9.out hb); have HZ10 := Lib.hid (blk_at HZ9.out hb); clear v0 v1 v2 v3 hb) | (go_at_call 27; refine (initT_nil _ _ _ _ _).mono ?_; rintro e w' ⟨rfl, rfl⟩) | (go_at_call 26; ((with_reducible refine (copyT_nil _ _ _ _ _).mono ?_)); rintro e w' ⟨rfl, rfl⟩) | (go_at_call 26; ((with_reducible refine (copyT_nil2 _ _ _ _ _).mono ?_)); rintro e w' ⟨rfl, rfl⟩))
  obtain ⟨z0, z1, z2, z3⟩ := four HZ10.out
  have H10d := Lib.hid H10.out.drew
  have heq : ∀ W, (binOp .eql 26 (.agg #[.int .i64 t, .int .u64 0, .int .u64 0, .bool (t == 112 || t == 111)]) (.agg #[.int .i64 t, .int .u64 0, .int .u64 0, .bool (t == 112 || t == 111)])).run Try.prog W = .ok (.bool true) W := fun W => eq26 _ _ _ _ W
  go_region_with (go_at_call 30; refine (zeroR_c _ _).mono ?_; rintro e w11 ⟨rfl, hb⟩; have H11 := Lib.hid (below_go H10d.out hb); obtain ⟨y0, y1, y2, y3⟩ := four (blk_at (w0 := w'.drew) HZ10.out hb); clear hb)
  all_goals
    go_simp
    go_wp2_with fail
    go_ret
    exact ⟨rfl, below_go HA.out H11.out⟩
theorem none_walk (a0 a1 a2 t2 lo hi : Int) (nu : Bool) (w : World) (w0 : (Lit.int .i64 a0).wf = true) (w1 : (Lit.int .u64 a1).wf = true) (w2 : (Lit.int .u64 a2).wf = true) :
    Calls Try.prog 7 #[.int .i64 a0, .int .u64 a1, .int .u64 a2, .agg #[.int .i64 t2, .int .u64 lo, .int .u64 hi, .bool nu]] w fun e w' => e = .returned (.bool true) ∧ Below w.heap.size w w' := none_law a0 a1 a2 t2 lo hi nu w
end Go.Proofs.Ytlllbgmnheikgaa.St
