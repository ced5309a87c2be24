/-
  Rows of values as lists of four (store): their cells, append, the reference's Repeat. No condition beyond those that the lemmas state.
-/
import Derived.Test.YtlllbgmnheikgaaStM
namespace Go.Proofs.Ytlllbgmnheikgaa.St
set_option linter.unusedVariables false
set_option linter.unusedSimpArgs false
open Go.RowKit Go.Proofs.YtlllbgmnheikgaaW.PrintWords Go.Proofs.Ytlllbgmnheikgaa.PStoreNone

abbrev V4 := Int × Int × Int × Bool
/-- A value's cells, and the value. -/
def vc (v : V4) : List Value := val4 v.1 v.2.1 v.2.2.1 v.2.2.2
def cl (l : List V4) : List Value := l.flatMap vc
theorem vc_len (v : V4) : (vc v).length = 4 := rfl
theorem cl_nil : cl [] = [] := rfl
theorem cl_cons (v : V4) (l : List V4) : cl (v :: l) = vc v ++ cl l := rfl
theorem cl_len : ∀ l : List V4, (cl l).length = l.length * 4
  | [] => rfl
  | v :: l => by rw [cl_cons, List.length_append, cl_len l, vc_len, List.length_cons]; omega
theorem cl_app (a b : List V4) : cl (a ++ b) = cl a ++ cl b := by unfold cl; rw [List.flatMap_append]
theorem cl_rep (n : Nat) (v : V4) : cl (List.replicate n v) = repC n (vc v) := by
  unfold cl repC; rw [List.flatMap_def, List.map_replicate]
theorem cl_one (l : List V4) : ∀ u ∈ cl l, u.oneCell' = true := by
  intro u hu
  unfold cl at hu
  obtain ⟨v, _, hv⟩ := List.mem_flatMap.1 hu
  exact val4_one _ _ _ _ u hv
theorem cl_take : ∀ (l : List V4) (k : Nat), (cl l).take (k * 4) = cl (l.take k)
  | [], k => by simp [cl]
  | v :: l, 0 => by simp [cl]
  | v :: l, k + 1 => by
    rw [List.take_succ_cons, cl_cons, cl_cons, List.take_append, vc_len, List.take_of_length_le (by rw [vc_len]; omega), show (k + 1) * 4 - 4 = k * 4 by omega, cl_take l k]
theorem cl_drop : ∀ (l : List V4) (k : Nat), (cl l).drop (k * 4) = cl (l.drop k)
  | [], k => by simp [cl]
  | v :: l, 0 => by simp [cl]
  | v :: l, k + 1 => by
    rw [List.drop_succ_cons, cl_cons, List.drop_append, vc_len, List.drop_of_length_le (by rw [vc_len]; omega), List.nil_append, show (k + 1) * 4 - 4 = k * 4 by omega, cl_drop l k]
theorem cl_get (l : List V4) (i j : Nat) (h : i < l.length) (hj : j < 4) : (cl l)[i * 4 + j]? = (vc l[i])[j]? := by
  have e : (cl l)[i * 4 + j]? = ((cl l).drop (i * 4))[j]? := by rw [List.getElem?_drop]
  rw [e, cl_drop, List.drop_eq_getElem_cons h, cl_cons, List.getElem?_append_left (by rw [vc_len]; exact hj)]
/-- append(v, ys...), v a row of one's own, ys read (nil let in). -/
theorem append_r4 (W : World) (base n m c : Nat) (A : Option Addr) (v : Value) (xs ys : List Value) (HO : W.ownsRow base 26 4 v n xs) (HR : Reads4 W A m ys) (hn : n + m ≤ 4000000) (hb : base ≤ W.heap.size) :
    ∃ v1 w1, (Builtin.append_ #[38, 38] 38 #[v, .slice A m c]).run Try.prog W = .ok v1 w1 ∧ w1.ownsRow base 26 4 v1 (n + m) (xs ++ ys) ∧ W.grownBy w1 v.ownBlock ∧ (v1.ownBlock = v.ownBlock ∨ v1.ownBlock = some W.heap.size) := by
  obtain ⟨i, hi, hz⟩ := Option.map_eq_some_iff.1 info26
  simp only [Prod.mk.injEq] at hz
  obtain ⟨hz0, hz1, hz2⟩ := hz
  rcases A with _ | ad
  · have h0 : m = 0 := by
      rcases Nat.eq_zero_or_pos m with h0 | h0
      · exact h0
      · obtain ⟨ad, h, _⟩ := HR.at_ h0
        cases h
    subst h0
    obtain rfl : ys = [] := List.eq_nil_of_length_eq_zero (by simpa using HR.len)
    refine ⟨v, W, ?_, by simpa using HO, World.grownBy.refl W _, .inl rfl⟩
    rcases HO.2 with ⟨rfl, hn⟩ | ⟨g, cap, cur, rfl, _, _, hnc, _⟩
    · simp [Builtin.append_, run_underlying Try.underlying38, sizeOf, typeInfo, hi, Builtin.lenOf, Builtin.firstCells]
    · simp [Builtin.append_, run_underlying Try.underlying38, sizeOf, typeInfo, hi, Builtin.lenOf, Builtin.firstCells, hnc, storeCells]
  · have hcells : ∀ j u, ys[j]? = some u → W.cell? (ad.add j) = some u := by
      intro j u hu
      have hj : j < ys.length := by
        rcases Nat.lt_or_ge j ys.length with h | h
        · exact h
        · rw [List.getElem?_eq_none h] at hu; cases hu
      have := HR.len
      obtain ⟨ad', h', hc⟩ := HR.at_ (by omega)
      injection h' with h'
      subst h'
      exact hc j u hu
    obtain ⟨v1, w1, hr, h2, h3, _, h5⟩ := run_append_own_at (P := Try.prog) W base 38 38 26 i zero4 4 32 Try.underlying38 hi hz0 hz1 hz2 rfl (by decide) v n xs HO ad m c ys HR.len hcells HR.one (by simp only [maxLen]; omega) (by omega) hb
    exact ⟨v1, w1, hr, h2, h3, h5⟩
/-- What makes a new row of values. -/
structure RowT (w : World) (l : List V4) (e : Ending) (w' : World) : Prop where mk ::
  (out : ∃ v, e = .returned v ∧ w'.ownsRow w.heap.size 26 4 v l.length (cl l) ∧ Below w.heap.size w w')
def RepR (w : World) (n : Nat) (x : V4) (v i : Value) (wr : World) : Prop :=
  ∃ k : Nat, i = .int .u64 k ∧ k ≤ n ∧ wr.ownsRow w.heap.size 26 4 v k (cl (List.replicate k x)) ∧ Below w.heap.size w wr ∧ wr.heap[w.heap.size]? = some (.cells #[.int .i64 x.1, .int .u64 x.2.1, .int .u64 x.2.2.1, .bool x.2.2.2] 26 (0, 0)) ∧ ∀ b, v.ownBlock = some b → w.heap.size < b
theorem lit_r4 (W : World) (t lo hi : Int) (nu : Bool) : Reads4 (W.alloc (Obj.cells #[.int .i64 t, .int .u64 lo, .int .u64 hi, .bool nu] 26)) (some ⟨W.heap.size, 0, none⟩) 1 (vc (t, lo, hi, nu)) := lit4 W t lo hi nu
set_option maxRecDepth 100000 in
theorem repR_c (n : Nat) (t lo hi : Int) (nu : Bool) (w : World) (hn : n ≤ 1000000) :
    Calls Try.prog 11 #[.agg #[.int .i64 t, .int .u64 lo, .int .u64 hi, .bool nu], .int .u64 (n : Int)] w (RowT w (List.replicate n (t, lo, hi, nu))) := by
  obtain ⟨wa, hwa⟩ : ∃ wa, wa = w.alloc (Obj.cells #[.int .i64 t, .int .u64 lo, .int .u64 hi, .bool nu] 26) := ⟨_, rfl⟩
  have HBA : Hid (Below w.heap.size w wa) := Lib.hid (by rw [hwa]; exact (Below.refl _ _).alloc (Nat.le_refl _) _)
  have hv0 : wa.heap[w.heap.size]? = some (.cells #[.int .i64 t, .int .u64 lo, .int .u64 hi, .bool nu] 26 (0, 0)) := by rw [hwa]; exact heap_alloc_new w _
  obtain ⟨pv, hpv⟩ : ∃ pv, pv = w.heap.size := ⟨_, rfl⟩
  rw [← hpv] at hv0
  have HV := Lib.hid hv0
  clear hv0
  go_enter Try.func11, Try.ntmps11
  go_upto_region 1 with fail
  rw [← hwa, ← hpv]
  have HPV := Lib.hid hpv
  clear hwa hpv
  go_wp2
  go_loopw [5, 6] (RepR w n (t, lo, hi, nu)) (fun _ i _ => n - (intOf i).toNat)
  case atStart => exact ⟨0, rfl, Nat.zero_le _, own_nil _ _ _ _, HBA.out, by rw [← HPV.out]; exact HV.out, fun b hb => by cases hb⟩
  case round =>
    obtain ⟨k, rfl, hk, ho, hb, hv, hne⟩ := hrel
    rw [← HPV.out] at hv hne
    have HO := Lib.hid ho
    have HB := Lib.hid hb
    have HVR := Lib.hid hv
    have HNE := Lib.hid hne
    by_cases hlt : k < n
    · have hl0 := (blk_cell hv 0).trans (show _ = some (Value.int .i64 t) from rfl)
      have hl1 := (blk_cell hv 1).trans (show _ = some (Value.int .u64 lo) from rfl)
      have hl2 := (blk_cell hv 2).trans (show _ = some (Value.int .u64 hi) from rfl)
      have hl3 := (blk_cell hv 3).trans (show _ = some (Value.bool nu) from rfl)
      have hb1 : Below wr.heap.size wr (wr.alloc (Obj.cells #[.int .i64 t, .int .u64 lo, .int .u64 hi, .bool nu] 26)) := (Below.refl _ _).alloc (Nat.le_refl _) _
      obtain ⟨v1, w1, hrun, ho1, hg1, hat⟩ := append_r4 _ w.heap.size k 1 1 _ u5 _ _ (pw_own_below ho hb1) (lit_r4 wr t lo hi nu) (by omega) (Nat.le_trans hb.size hb1.size)
      have hsz := hb.size
      have hrow : cl (List.replicate k (t, lo, hi, nu)) ++ vc (t, lo, hi, nu) = cl (List.replicate (k + 1) (t, lo, hi, nu)) := by
        rw [List.replicate_succ', cl_app]; simp [cl]
      rw [hrow] at ho1
      have HO1 := Lib.hid ho1
      have HB1 := Lib.hid ((hb.trans (hb1.mono hsz)).grown hg1 (Nat.le_trans hsz hb1.size) (own_base ho))
      have hlt1 : pv < wr.heap.size := blk_lt hv
      have HV1 : Hid (w1.heap[pv]? = some (.cells #[.int .i64 t, .int .u64 lo, .int .u64 hi, .bool nu] 26 (0, 0))) := Lib.hid ((hg1.block pv (Nat.lt_of_lt_of_le hlt1 hb1.size) (fun e => by have := hne _ e.symm; omega)).trans ((hb1.block pv hlt1).trans hv))
      have hs1 : wr.heap.size < (wr.alloc (Obj.cells #[.int .i64 t, .int .u64 lo, .int .u64 hi, .bool nu] 26)).heap.size := by show _ < (Array.push _ _).size; rw [Array.size_push]; omega
      have HN1 : Hid (∀ b, v1.ownBlock = some b → pv < b) := Lib.hid (fun b hb2 => by
        rcases hat with q | q
        · exact hne b (q ▸ hb2)
        · rw [q] at hb2; injection hb2 with e; omega)
      have HRUN := Lib.hid hrun
      clear ho hb hv hne hrun ho1 hg1 hat hrow hb1 hs1
      go_wp2_with (at_builtin; go_loud (refine step_append rfl (.tmp 12) (.tmp 14) 38 38 rfl u5 (.slice (some ⟨wr.heap.size, 0, none⟩) 1 1) v1 w1 (by first | (go_simp; done) | (go_simp; rfl) | rfl) (by first | (go_simp; done) | (go_simp; rfl) | rfl) HRUN.out ?_; clear hl0 hl1 hl2 hl3))
      go_roundw
      case rel => exact ⟨k + 1, by go_num, by omega, HO1.out, HB1.out, by rw [← HPV.out]; exact HV1.out, by rw [← HPV.out]; exact HN1.out⟩
      case measure => simp [intOf]; omega
    · have hkn : k = n := by omega
      have hge : (n : Int) ≤ k := by omega
      clear hlt ho hb hv hne
      subst hkn
      go_wp2
      go_ret
      exact ⟨_, rfl, by rw [List.length_replicate]; exact HO.out, HB.out⟩
end Go.Proofs.Ytlllbgmnheikgaa.St
