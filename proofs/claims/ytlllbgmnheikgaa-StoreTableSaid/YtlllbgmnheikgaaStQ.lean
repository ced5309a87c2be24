/-
  The walks of the reference's GrowTable and Same (store). No condition but that the rows of values are read.
-/
import Derived.Test.YtlllbgmnheikgaaStP
namespace Go.Proofs.Ytlllbgmnheikgaa.St
set_option linter.unusedVariables false
set_option linter.unusedSimpArgs false
open Go.RowKit Go.Proofs.YtlllbgmnheikgaaW.PrintWords Go.Proofs.YtlllbgmnheikgaaW.PrintMore Go.Proofs.Ytlllbgmnheikgaa.PStoreNone

structure RowT2 (w : World) (l : List V4) (r : Int) (e : Ending) (w' : World) : Prop where mk ::
  (out : ∃ v, e = .returned (.tuple #[v, .int .i64 r]) ∧ w'.ownsRow w.heap.size 26 4 v l.length (cl l) ∧ Below w.heap.size w w')
def growTk (k n : Nat) (mst : Int) : Prop := (k : Int) ≤ mst ∧ (n : Int) ≤ mst - (k : Int)
instance (k n : Nat) (mst : Int) : Decidable (growTk k n mst) := by unfold growTk; infer_instance
theorem own_r4 {W : World} {base n : Nat} {v : Value} {l : List V4} (h : W.ownsRow base 26 4 v n (cl l)) (hn : l.length = n) : ∃ A c, v = .slice A n c ∧ Reads4 W A n (cl l) := by
  obtain ⟨A, c, rfl⟩ := own_slice h
  exact ⟨A, c, rfl, (own_reads4 h (cl_one l)).1⟩
set_option maxHeartbeats 1000000 in
set_option maxRecDepth 100000 in
theorem growTR_no (w : World) (mn mx : Int) (hs : Bool) (A : Option Addr) (c : Nat) (l : List V4) (hl : l.length ≤ 1000000) (n : Nat) (t lo hi : Int) (nu : Bool) (hn : n < 18446744073709551616) (hno : ¬ growTk l.length n (mostT mx hs)) (hx : -9223372036854775808 ≤ mx) :
    Calls Try.prog 12 #[.slice A l.length c, .agg #[.int .i64 mn, .int .i64 mx, .bool hs], .int .u64 (n : Int), .agg #[.int .i64 t, .int .u64 lo, .int .u64 hi, .bool nu]] w (GrowN w (.slice A l.length c)) := by
  obtain ⟨mst, hmst⟩ : ∃ m, m = mostT mx hs := ⟨_, rfl⟩
  obtain ⟨W, hW⟩ : ∃ W, W = l.length := ⟨_, rfl⟩
  have HMU : Hid (mst ≤ 10000) := Lib.hid (by rw [hmst]; unfold mostT; split <;> omega)
  have HML : Hid (-9223372036854775808 ≤ mst) := Lib.hid (by rw [hmst]; unfold mostT; split <;> omega)
  have HM1 : Hid (hs = true → min 10000 mx = mst) := Lib.hid (fun h => by rw [hmst]; unfold mostT; rw [if_pos h])
  have HM2 : Hid (hs = false → 10000 = mst) := Lib.hid (fun h => by rw [hmst]; unfold mostT; rw [if_neg (by simp [h])])
  have HNO : Hid (¬ ((W : Int) ≤ mst ∧ (n : Int) ≤ mst - (W : Int))) := Lib.hid (by rw [hmst, hW]; exact hno)
  clear hno
  have HN := Lib.hid hn
  have HWL := Lib.hid hW
  rw [← hW] at hl ⊢
  obtain ⟨wa, hwa⟩ : ∃ wa, wa = (w.alloc (Obj.cells #[.int .i64 mn, .int .i64 mx, .bool hs] 23)).alloc (Obj.cells #[.int .i64 t, .int .u64 lo, .int .u64 hi, .bool nu] 26) := ⟨_, rfl⟩
  have hs1 : (w.alloc (Obj.cells #[.int .i64 mn, .int .i64 mx, .bool hs] 23)).heap.size = w.heap.size + 1 := by show (Array.push _ _).size = _; exact Array.size_push _
  have hb1 : Below w.heap.size w (w.alloc (Obj.cells #[.int .i64 mn, .int .i64 mx, .bool hs] 23)) := (Below.refl _ _).alloc (Nat.le_refl _) _
  have hb2 : Below (w.heap.size + 1) (w.alloc (Obj.cells #[.int .i64 mn, .int .i64 mx, .bool hs] 23)) wa := by rw [hwa, ← hs1]; exact (Below.refl _ _).alloc (Nat.le_refl _) _
  have HB : Hid (Below w.heap.size w wa) := Lib.hid (hb1.trans (hb2.mono (by omega)))
  obtain ⟨pv, hpv⟩ : ∃ pv, pv = w.heap.size := ⟨_, rfl⟩
  have hv0 : wa.heap[pv]? = some (.cells #[.int .i64 mn, .int .i64 mx, .bool hs] 23 (0, 0)) := by rw [hpv]; exact (hb2.block _ (by omega)).trans (heap_alloc_new w _)
  have hv1 : wa.heap[pv + 1]? = some (.cells #[.int .i64 t, .int .u64 lo, .int .u64 hi, .bool nu] 26 (0, 0)) := by rw [hpv, hwa, ← hs1]; exact heap_alloc_new _ _
  have HV1 := Lib.hid hv1
  obtain ⟨c0, c1, c2⟩ := blk3 hv0
  have HPV := Lib.hid hpv
  clear hx hn hmst hW c0 hv0 hv1 hb1 hb2 hs1
  go_enter Try.func12, Try.ntmps12
  go_upto_region 1 with fail
  rw [← hwa, ← hpv]
  clear hwa hpv
  have HF : Hid ((n : Int) ≤ 10000 → mst < (W : Int) + (n : Int)) := Lib.hid (fun _ => by have := HNO.out; omega)
  have tail : ∀ m', m' = mst → (n : Int) ≤ 10000 → m' < (W : Int) + (n : Int) := fun m' e h => by rw [e]; exact HF.out h
  have HT := Lib.hid tail
  clear tail
  have hw2 : (W : Int) ≤ 1000000 := by omega
  cases hs
  · have hE := HM2.out rfl
    by_cases h1 : (n : Int) > 10000
    · clear hE
      go_wp2
      go_ret2
      exact ⟨rfl, HB.out⟩
    · have hs2 : IntKind.i64.wrap (n : Int) = (n : Int) := by rw [IntKind.wrap_i64]; omega
      have hs3 := HT.out 10000 hE (by omega)
      clear hE
      go_wp2
      go_ret2
      exact ⟨rfl, HB.out⟩
  · have hE0 := HM1.out rfl
    by_cases hlt : mx < 10000
    · have hE : mx = mst := by omega
      by_cases h1 : (n : Int) > 10000
      · clear hE0 hE
        go_wp2
        go_ret2
        exact ⟨rfl, HB.out⟩
      · have hs2 : IntKind.i64.wrap (n : Int) = (n : Int) := by rw [IntKind.wrap_i64]; omega
        have hs3 := HT.out mx hE (by omega)
        clear hE0 hE
        go_wp2
        go_ret2
        exact ⟨rfl, HB.out⟩
    · have hE : 10000 = mst := by omega
      by_cases h1 : (n : Int) > 10000
      · clear hE0 hE
        go_wp2
        go_ret2
        exact ⟨rfl, HB.out⟩
      · have hs2 : IntKind.i64.wrap (n : Int) = (n : Int) := by rw [IntKind.wrap_i64]; omega
        have hs3 := HT.out 10000 hE (by omega)
        clear hE0 hE
        go_wp2
        go_ret2
        exact ⟨rfl, HB.out⟩
set_option maxHeartbeats 1000000 in
set_option maxRecDepth 100000 in
theorem growTR_yes (w : World) (mn mx : Int) (hs : Bool) (A : Option Addr) (c : Nat) (l : List V4) (hl : l.length ≤ 1000000) (n : Nat) (t lo hi : Int) (nu : Bool) (hn : n < 18446744073709551616) (hr : Reads4 w A l.length (cl l)) (hyes : growTk l.length n (mostT mx hs)) (hx : -9223372036854775808 ≤ mx) :
    Calls Try.prog 12 #[.slice A l.length c, .agg #[.int .i64 mn, .int .i64 mx, .bool hs], .int .u64 (n : Int), .agg #[.int .i64 t, .int .u64 lo, .int .u64 hi, .bool nu]] w (RowT2 w (l ++ List.replicate n (t, lo, hi, nu)) (l.length : Int)) := by
  obtain ⟨mst, hmst⟩ : ∃ m, m = mostT mx hs := ⟨_, rfl⟩
  obtain ⟨W, hW⟩ : ∃ W, W = l.length := ⟨_, rfl⟩
  have HMU : Hid (mst ≤ 10000) := Lib.hid (by rw [hmst]; unfold mostT; split <;> omega)
  have HML : Hid (-9223372036854775808 ≤ mst) := Lib.hid (by rw [hmst]; unfold mostT; split <;> omega)
  have HM1 : Hid (hs = true → min 10000 mx = mst) := Lib.hid (fun h => by rw [hmst]; unfold mostT; rw [if_pos h])
  have HM2 : Hid (hs = false → 10000 = mst) := Lib.hid (fun h => by rw [hmst]; unfold mostT; rw [if_neg (by simp [h])])
  have HNO : Hid ((W : Int) ≤ mst ∧ (n : Int) ≤ mst - (W : Int)) := Lib.hid (by rw [hmst, hW]; exact hyes)
  have hr0 := hr
  rw [← hW] at hr0
  have HR := Lib.hid hr0
  clear hyes hr hr0
  have HN := Lib.hid hn
  have HWL := Lib.hid hW
  rw [← hW] at hl ⊢
  obtain ⟨wa, hwa⟩ : ∃ wa, wa = (w.alloc (Obj.cells #[.int .i64 mn, .int .i64 mx, .bool hs] 23)).alloc (Obj.cells #[.int .i64 t, .int .u64 lo, .int .u64 hi, .bool nu] 26) := ⟨_, rfl⟩
  have hs1 : (w.alloc (Obj.cells #[.int .i64 mn, .int .i64 mx, .bool hs] 23)).heap.size = w.heap.size + 1 := by show (Array.push _ _).size = _; exact Array.size_push _
  have hb1 : Below w.heap.size w (w.alloc (Obj.cells #[.int .i64 mn, .int .i64 mx, .bool hs] 23)) := (Below.refl _ _).alloc (Nat.le_refl _) _
  have hb2 : Below (w.heap.size + 1) (w.alloc (Obj.cells #[.int .i64 mn, .int .i64 mx, .bool hs] 23)) wa := by rw [hwa, ← hs1]; exact (Below.refl _ _).alloc (Nat.le_refl _) _
  have HB : Hid (Below w.heap.size w wa) := Lib.hid (hb1.trans (hb2.mono (by omega)))
  obtain ⟨pv, hpv⟩ : ∃ pv, pv = w.heap.size := ⟨_, rfl⟩
  have hv0 : wa.heap[pv]? = some (.cells #[.int .i64 mn, .int .i64 mx, .bool hs] 23 (0, 0)) := by rw [hpv]; exact (hb2.block _ (by omega)).trans (heap_alloc_new w _)
  have hv1 : wa.heap[pv + 1]? = some (.cells #[.int .i64 t, .int .u64 lo, .int .u64 hi, .bool nu] 26 (0, 0)) := by rw [hpv, hwa, ← hs1]; exact heap_alloc_new _ _
  have HV1 := Lib.hid hv1
  obtain ⟨c0, c1, c2⟩ := blk3 hv0
  have HPV := Lib.hid hpv
  clear hx hn hmst hW c0 hv0 hv1 hb1 hb2 hs1
  go_enter Try.func12, Try.ntmps12
  go_upto_region 1 with fail
  rw [← hwa, ← hpv]
  clear hwa hpv
  have HF : Hid ((W : Int) + (n : Int) ≤ mst) := Lib.hid (by have := HNO.out; omega)
  have tail : ∀ m', m' = mst → (W : Int) + (n : Int) ≤ m' := fun m' e => by rw [e]; exact HF.out
  have HT := Lib.hid tail
  clear tail
  have h1 : (n : Int) ≤ 10000 := by have := HNO.out; have := HMU.out; omega
  have hw2 : (W : Int) ≤ 10000 := by have := HNO.out; have := HMU.out; omega
  have hs2 : IntKind.i64.wrap (n : Int) = (n : Int) := by rw [IntKind.wrap_i64]; omega
  have HRB : Hid (Reads4 wa A W (cl l)) := Lib.hid (reads4_below HR.out HB.out)
  cases hs
  · have hE := HM2.out rfl
    have hs3 := HT.out 10000 hE
    clear hE
    obtain ⟨v1, w1, hrun, ho1, hg1, hat1⟩ := append_r4 wa w.heap.size 0 W c A (.slice none 0 0) [] (cl l) (own_nil _ _ _ _) HRB.out (by omega) HB.out.size
    rw [Nat.zero_add, List.nil_append] at ho1
    have HRUN1 := Lib.hid hrun
    have HO1 := Lib.hid ho1
    have HB1 := Lib.hid (HB.out.grown hg1 HB.out.size (fun k hk => by cases hk))
    have hv1 := (hg1.block (pv + 1) (blk_lt HV1.out) (fun e => by cases e)).trans HV1.out
    have hl0 := (blk_cell hv1 0).trans (show _ = some (Value.int .i64 t) from rfl)
    have hl1 := (blk_cell hv1 1).trans (show _ = some (Value.int .u64 lo) from rfl)
    have hl2 := (blk_cell hv1 2).trans (show _ = some (Value.int .u64 hi) from rfl)
    have hl3 := (blk_cell hv1 3).trans (show _ = some (Value.bool nu) from rfl)
    clear hrun ho1 hg1 hat1 hv1
    go_wp2_with (first | (at_builtin; go_loud (first | (refine step_append rfl (.tmp 34) (.tmp 35) 38 38 rfl (.slice none 0 0) (.slice A W c) v1 w1 (by first | (go_simp; done) | (go_simp; rfl) | rfl) (by first | (go_simp; done) | (go_simp; rfl) | rfl) HRUN1.out ?_; clear c1 c2) | (refine step_append rfl (.tmp 37) (.tmp 40) 38 38 rfl v1 (.slice A2 n c2) v3 w3 (by first | (go_simp; done) | (go_simp; rfl) | rfl) (by first | (go_simp; done) | (go_simp; rfl) | rfl) HRUN3.out ?_))) | (go_at_call 11; (refine (repR_c n t lo hi nu w1 (by omega)).mono ?_; intro e w2 hq; obtain ⟨v2, he, ho2, hb2⟩ := hq.out; subst he; rw [List.length_replicate] at ho2; obtain ⟨A2, c2, rfl, hr2⟩ := own_r4 ho2 (List.length_replicate); have hb3 := HB1.out.trans (hb2.mono HB1.out.size); obtain ⟨v3, w3, hrun3, ho3, hg3, hat3⟩ := append_r4 w2 w.heap.size W n c2 A2 v1 (cl l) (cl (List.replicate n (t, lo, hi, nu))) (pw_own_below HO1.out hb2) hr2 (by omega) hb3.size; have HRUN3 := Lib.hid hrun3; have HO3 := Lib.hid ho3; have HB3 := Lib.hid (hb3.grown hg3 hb3.size (own_base HO1.out)); clear hq ho2 hb2 hr2 hb3 hrun3 ho3 hg3 hat3 hl0 hl1 hl2 hl3)))
    go_ret2
    exact ⟨v3, rfl, by rw [List.length_append, List.length_replicate, cl_app, ← HWL.out]; exact HO3.out, HB3.out⟩
  · have hE0 := HM1.out rfl
    by_cases hlt : mx < 10000
    · have hE : mx = mst := by omega
      have hs3 := HT.out mx hE
      clear hE0 hE
      obtain ⟨v1, w1, hrun, ho1, hg1, hat1⟩ := append_r4 wa w.heap.size 0 W c A (.slice none 0 0) [] (cl l) (own_nil _ _ _ _) HRB.out (by omega) HB.out.size
      rw [Nat.zero_add, List.nil_append] at ho1
      have HRUN1 := Lib.hid hrun
      have HO1 := Lib.hid ho1
      have HB1 := Lib.hid (HB.out.grown hg1 HB.out.size (fun k hk => by cases hk))
      have hv1 := (hg1.block (pv + 1) (blk_lt HV1.out) (fun e => by cases e)).trans HV1.out
      have hl0 := (blk_cell hv1 0).trans (show _ = some (Value.int .i64 t) from rfl)
      have hl1 := (blk_cell hv1 1).trans (show _ = some (Value.int .u64 lo) from rfl)
      have hl2 := (blk_cell hv1 2).trans (show _ = some (Value.int .u64 hi) from rfl)
      have hl3 := (blk_cell hv1 3).trans (show _ = some (Value.bool nu) from rfl)
      clear hrun ho1 hg1 hat1 hv1
      go_wp2_with (first | (at_builtin; go_loud (first | (refine step_append rfl (.tmp 34) (.tmp 35) 38 38 rfl (.slice none 0 0) (.slice A W c) v1 w1 (by first | (go_simp; done) | (go_simp; rfl) | rfl) (by first | (go_simp; done) | (go_simp; rfl) | rfl) HRUN1.out ?_; clear c1 c2) | (refine step_append rfl (.tmp 37) (.tmp 40) 38 38 rfl v1 (.slice A2 n c2) v3 w3 (by first | (go_simp; done) | (go_simp; rfl) | rfl) (by first | (go_simp; done) | (go_simp; rfl) | rfl) HRUN3.out ?_))) | (go_at_call 11; (refine (repR_c n t lo hi nu w1 (by omega)).mono ?_; intro e w2 hq; obtain ⟨v2, he, ho2, hb2⟩ := hq.out; subst he; rw [List.length_replicate] at ho2; obtain ⟨A2, c2, rfl, hr2⟩ := own_r4 ho2 (List.length_replicate); have hb3 := HB1.out.trans (hb2.mono HB1.out.size); obtain ⟨v3, w3, hrun3, ho3, hg3, hat3⟩ := append_r4 w2 w.heap.size W n c2 A2 v1 (cl l) (cl (List.replicate n (t, lo, hi, nu))) (pw_own_below HO1.out hb2) hr2 (by omega) hb3.size; have HRUN3 := Lib.hid hrun3; have HO3 := Lib.hid ho3; have HB3 := Lib.hid (hb3.grown hg3 hb3.size (own_base HO1.out)); clear hq ho2 hb2 hr2 hb3 hrun3 ho3 hg3 hat3 hl0 hl1 hl2 hl3)))
      go_ret2
      exact ⟨v3, rfl, by rw [List.length_append, List.length_replicate, cl_app, ← HWL.out]; exact HO3.out, HB3.out⟩
    · have hE : 10000 = mst := by omega
      have hs3 := HT.out 10000 hE
      clear hE0 hE
      obtain ⟨v1, w1, hrun, ho1, hg1, hat1⟩ := append_r4 wa w.heap.size 0 W c A (.slice none 0 0) [] (cl l) (own_nil _ _ _ _) HRB.out (by omega) HB.out.size
      rw [Nat.zero_add, List.nil_append] at ho1
      have HRUN1 := Lib.hid hrun
      have HO1 := Lib.hid ho1
      have HB1 := Lib.hid (HB.out.grown hg1 HB.out.size (fun k hk => by cases hk))
      have hv1 := (hg1.block (pv + 1) (blk_lt HV1.out) (fun e => by cases e)).trans HV1.out
      have hl0 := (blk_cell hv1 0).trans (show _ = some (Value.int .i64 t) from rfl)
      have hl1 := (blk_cell hv1 1).trans (show _ = some (Value.int .u64 lo) from rfl)
      have hl2 := (blk_cell hv1 2).trans (show _ = some (Value.int .u64 hi) from rfl)
      have hl3 := (blk_cell hv1 3).trans (show _ = some (Value.bool nu) from rfl)
      clear hrun ho1 hg1 hat1 hv1
      go_wp2_with (first | (at_builtin; go_loud (first | (refine step_append rfl (.tmp 34) (.tmp 35) 38 38 rfl (.slice none 0 0) (.slice A W c) v1 w1 (by first | (go_simp; done) | (go_simp; rfl) | rfl) (by first | (go_simp; done) | (go_simp; rfl) | rfl) HRUN1.out ?_; clear c1 c2) | (refine step_append rfl (.tmp 37) (.tmp 40) 38 38 rfl v1 (.slice A2 n c2) v3 w3 (by first | (go_simp; done) | (go_simp; rfl) | rfl) (by first | (go_simp; done) | (go_simp; rfl) | rfl) HRUN3.out ?_))) | (go_at_call 11; (refine (repR_c n t lo hi nu w1 (by omega)).mono ?_; intro e w2 hq; obtain ⟨v2, he, ho2, hb2⟩ := hq.out; subst he; rw [List.length_replicate] at ho2; obtain ⟨A2, c2, rfl, hr2⟩ := own_r4 ho2 (List.length_replicate); have hb3 := HB1.out.trans (hb2.mono HB1.out.size); obtain ⟨v3, w3, hrun3, ho3, hg3, hat3⟩ := append_r4 w2 w.heap.size W n c2 A2 v1 (cl l) (cl (List.replicate n (t, lo, hi, nu))) (pw_own_below HO1.out hb2) hr2 (by omega) hb3.size; have HRUN3 := Lib.hid hrun3; have HO3 := Lib.hid ho3; have HB3 := Lib.hid (hb3.grown hg3 hb3.size (own_base HO1.out)); clear hq ho2 hb2 hr2 hb3 hrun3 ho3 hg3 hat3 hl0 hl1 hl2 hl3)))
      go_ret2
      exact ⟨v3, rfl, by rw [List.length_append, List.length_replicate, cl_app, ← HWL.out]; exact HO3.out, HB3.out⟩

theorem add1 (x : Addr) : x.add 1 = ⟨x.block, x.off + 1, none⟩ := rfl
theorem add2 (x : Addr) : x.add 2 = ⟨x.block, x.off + 2, none⟩ := rfl
theorem add3 (x : Addr) : x.add 3 = ⟨x.block, x.off + 3, none⟩ := rfl
theorem neq26 (t lo hi : Int) (nu : Bool) (W : World) : (binOp .neq 26 (.agg #[.int .i64 t, .int .u64 lo, .int .u64 hi, .bool nu]) (.agg #[.int .i64 t, .int .u64 lo, .int .u64 hi, .bool nu])).run Try.prog W = .ok (.bool false) W := by
  have he : (Op.equalIn (9999 + 1) 26 (.agg #[.int .i64 t, .int .u64 lo, .int .u64 hi, .bool nu]) (.agg #[.int .i64 t, .int .u64 lo, .int .u64 hi, .bool nu])).run Try.prog W = .ok true W := by
    have h : (Op.equalIn (9999 + 1) 26 (.agg #[.int .i64 t, .int .u64 lo, .int .u64 hi, .bool nu]) (.agg #[.int .i64 t, .int .u64 lo, .int .u64 hi, .bool nu])).run Try.prog W = .ok (t == t && (lo == lo && (hi == hi && nu == nu))) W := by
      refine eqA_of Try.underlying26 (by kernel_rfl) ?_
      refine eqf_cons (by rfl) (by go_simp; rfl) (by go_simp; rfl) (by go_simp) ?_
      refine eqf_cons (by rfl) (by go_simp; rfl) (by go_simp; rfl) (by go_simp) ?_
      refine eqf_cons (by rfl) (by go_simp; rfl) (by go_simp; rfl) (by go_simp) ?_
      exact eqf_last (by rfl) (by go_simp; rfl) (by go_simp; rfl) (by go_simp)
    simpa using h
  simp only [binOp]
  simp [Op.equal, Op.maxDepth, he]
set_option maxRecDepth 100000 in
theorem same_c (w : World) (A B : Option Addr) (n c d : Nat) (l : List V4) (hl : l.length = n) (hn : n ≤ 4000000) (ha : Reads4 w A n (cl l)) (hb : Reads4 w B n (cl l)) :
    Calls Try.prog 14 #[.slice A n c, .slice B n d] w fun e w' => e = .returned (.bool true) ∧ ∃ m, w' = w.drewN m := by
  have HA := Lib.hid ha
  have HBB := Lib.hid hb
  have HL := Lib.hid hl
  clear ha hb hl
  go_enter Try.func14, Try.ntmps14
  go_upto_region 4 with fail
  go_loopw [5] (fun i wr => ∃ k : Nat, i = .int .i64 k ∧ k ≤ n ∧ ∃ m, wr = w.drewN m) (fun i _ => n - (intOf i).toNat)
  case atStart => exact ⟨0, rfl, Nat.zero_le _, 0, rfl⟩
  case round =>
    obtain ⟨k, rfl, hk, m, rfl⟩ := hrel
    by_cases hlt : k < n
    · obtain ⟨a, rfl, ha⟩ := HA.out.at_ (by omega)
      obtain ⟨b, rfl, hb⟩ := HBB.out.at_ (by omega)
      have hlen := HL.out
      obtain ⟨t, lo, hi, nu, hv⟩ : ∃ t lo hi nu, l[k] = (t, lo, hi, nu) := ⟨_, _, _, _, rfl⟩
      have g0 := cl_get l k 0 (by omega) (by decide)
      have g1 := cl_get l k 1 (by omega) (by decide)
      have g2 := cl_get l k 2 (by omega) (by decide)
      have g3 := cl_get l k 3 (by omega) (by decide)
      rw [hv] at g0 g1 g2 g3
      have a0 := ha _ _ g0
      have a1 := ha _ _ g1
      have a2 := ha _ _ g2
      have a3 := ha _ _ g3
      have b0 := hb _ _ g0
      have b1 := hb _ _ g1
      have b2 := hb _ _ g2
      have b3 := hb _ _ g3
      have hneq := fun W => neq26 t lo hi nu W
      rw [Nat.add_zero] at a0 b0
      rw [← Go.Proofs.YtlllbgmnheikgaaW.PrintWords.add_add] at a1 a2 a3 b1 b2 b3
      rw [add1] at a1 b1
      rw [add2] at a2 b2
      rw [add3] at a3 b3
      clear ha hb g0 g1 g2 g3 hv hlen
      go_upto_region 6 with fail
      go_quiet (fail)
      go_wp2
      go_roundw
      case rel => exact ⟨k + 1, by go_num, by omega, _, rfl⟩
      case measure => simp [intOf]; omega
    · have hge : (n : Int) ≤ k := by omega
      clear hlt
      go_wp2
      go_ret
      exact ⟨rfl, _, rfl⟩
/-- What both tables' Grows leave. -/
def tz (n : Nat) (mst : Int) (l : List V4) (v : V4) : List V4 := if growTk l.length n mst then l ++ List.replicate n v else l
def tr (n : Nat) (mst : Int) (l : List V4) : Int := if growTk l.length n mst then (l.length : Int) else -1
structure Tr12 (w : World) (base : Nat) (l : List V4) (r : Int) (v0 : Value) (e : Ending) (w' : World) : Prop where mk ::
  (out : ∃ v, e = .returned (.tuple #[v, .int .i64 r]) ∧ w'.ownsRow base 26 4 v l.length (cl l) ∧ Below w.heap.size w w' ∧ (v.ownBlock = v0.ownBlock ∨ ∀ k, v.ownBlock = some k → w.heap.size ≤ k))
theorem tr12 (w : World) (base : Nat) (mn mx : Int) (hs : Bool) (v0 : Value) (l : List V4) (hl : l.length ≤ 1000000) (n : Nat) (t lo hi : Int) (nu : Bool) (hn : n < 18446744073709551616) (hx : -9223372036854775808 ≤ mx) (ho : w.ownsRow base 26 4 v0 l.length (cl l)) (hb : base ≤ w.heap.size) :
    Calls Try.prog 12 #[v0, .agg #[.int .i64 mn, .int .i64 mx, .bool hs], .int .u64 (n : Int), .agg #[.int .i64 t, .int .u64 lo, .int .u64 hi, .bool nu]] w (Tr12 w base (tz n (mostT mx hs) l (t, lo, hi, nu)) (tr n (mostT mx hs) l) v0) := by
  obtain ⟨A, c, rfl, hr⟩ := own_r4 ho rfl
  unfold tz tr
  by_cases h : growTk l.length n (mostT mx hs)
  · rw [if_pos h, if_pos h]
    refine (growTR_yes w mn mx hs A c l hl n t lo hi nu hn hr h hx).mono fun e w' hq => ?_
    obtain ⟨v, he, ho', hb'⟩ := hq.out
    exact ⟨v, he, own_less ho' hb, hb', .inr fun k hk => own_base ho' k hk⟩
  · rw [if_neg h, if_neg h]
    refine (growTR_no w mn mx hs A c l hl n t lo hi nu hn h hx).mono fun e w' hq => ?_
    obtain ⟨he, hb'⟩ := hq.out
    exact ⟨_, he, pw_own_below ho hb', hb', .inl rfl⟩
theorem gt13 (w : World) (base g : Nat) (rf mn mx : Int) (hs : Bool) (v0 : Value) (l : List V4) (W : Nat) (hW : W = l.length) (H : TblI w base g rf mn mx hs v0 W (cl l)) (n : Nat) (t lo hi : Int) (nu : Bool) (hb : base ≤ w.heap.size) (hx : -9223372036854775808 ≤ mx) :
    Calls Try.prog 13 #[.pointer (some ⟨g, 0, none⟩), .int .u64 (n : Int), .agg #[.int .i64 t, .int .u64 lo, .int .u64 hi, .bool nu]] w (GrowT w base g rf mn mx hs v0 (tz n (mostT mx hs) l (t, lo, hi, nu)).length (cl (tz n (mostT mx hs) l (t, lo, hi, nu))) (tr n (mostT mx hs) l)) := by
  subst hW
  obtain ⟨A, c, rfl⟩ := own_slice H.own
  unfold tz tr
  by_cases h : growTk l.length n (mostT mx hs)
  · rw [if_pos h, if_pos h, cl_app, cl_rep, List.length_append, List.length_replicate]
    exact growT_yes w base g rf mn mx hs A c l.length (cl l) H n t lo hi nu hb h hx
  · rw [if_neg h, if_neg h]
    exact growT_no w base g rf mn mx hs A c l.length (cl l) H n t lo hi nu hb h hx
end Go.Proofs.Ytlllbgmnheikgaa.St
