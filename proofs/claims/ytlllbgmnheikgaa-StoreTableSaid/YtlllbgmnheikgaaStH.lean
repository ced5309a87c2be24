/-
  The walks of a table's Grow and Get (store). No condition but that the table's block is one, its values a row of one's own.
-/
import Derived.Test.YtlllbgmnheikgaaStG
import Derived.Maps.AppendAt
import Derived.Deep.RegionLaw
namespace Go.Proofs.Ytlllbgmnheikgaa.St
set_option linter.unusedVariables false
set_option linter.unusedSimpArgs false
open Go.RowKit Go.Proofs.YtlllbgmnheikgaaW.PrintWords Go.Proofs.YtlllbgmnheikgaaW.PrintMore Go.Proofs.Ytlllbgmnheikgaa.PStoreNone
attribute [local go_sem] max2_int min2_int max_two min_two

/-- A table: its block, its type and limits, its values, a row of one's own. -/
structure TblI (w : World) (base g : Nat) (rf mn mx : Int) (hs : Bool) (v : Value) (n : Nat) (xs : List Value) : Prop where
  blk : w.heap[g]? = some (.cells #[.int .i64 rf, .int .i64 mn, .int .i64 mx, .bool hs, v] 41 (0, 0))
  own : w.ownsRow base 26 4 v n xs
  one : ∀ u ∈ xs, u.oneCell' = true
  ge : base ≤ g
  len : n ≤ 1000000
section
variable {w : World} {base g n : Nat} {rf mn mx : Int} {hs : Bool} {v : Value} {xs : List Value} (H : TblI w base g rf mn mx hs v n xs)
theorem TblI.ne (H : TblI w base g rf mn mx hs v n xs) : some g ≠ v.ownBlock := own_ne H.own H.blk (by decide)
theorem TblI.cellB (H : TblI w base g rf mn mx hs v n xs) : w.cell? ⟨g, 4, none⟩ = some v := (blk_cell H.blk 4).trans rfl
theorem TblI.cell2 (H : TblI w base g rf mn mx hs v n xs) : w.cell? ⟨g, 2, none⟩ = some (.int .i64 mx) := (blk_cell H.blk 2).trans rfl
theorem TblI.cell3 (H : TblI w base g rf mn mx hs v n xs) : w.cell? ⟨g, 3, none⟩ = some (.bool hs) := (blk_cell H.blk 3).trans rfl
theorem TblI.below (H : TblI w base g rf mn mx hs v n xs) {w' : World} (h : Below w.heap.size w w') : TblI w' base g rf mn mx hs v n xs :=
  ⟨(h.block g (blk_lt H.blk)).trans H.blk, pw_own_below H.own h, H.one, H.ge, H.len⟩
end
/-- A value's cells. -/
def val4 (t lo hi : Int) (nu : Bool) : List Value := [.int .i64 t, .int .u64 lo, .int .u64 hi, .bool nu]
def mostT (mx : Int) (hs : Bool) : Int := if hs = true then min 10000 mx else 10000
structure GrowT (w : World) (base g : Nat) (rf mn mx : Int) (hs : Bool) (v0 : Value) (n : Nat) (xs : List Value) (r : Int) (e : Ending) (w' : World) : Prop where mk ::
  (out : ∃ v, e = .returned (.int .i64 r) ∧ TblI w' base g rf mn mx hs v n xs ∧ (∀ i, i < w.heap.size → i ≠ g → some i ≠ v0.ownBlock → w'.heap[i]? = w.heap[i]?) ∧ Below base w w' ∧ (v.ownBlock = v0.ownBlock ∨ ∃ b, v.ownBlock = some b ∧ w.heap.size ≤ b) ∧ w.heap.size ≤ w'.heap.size)
theorem step_append_run {P : Program} {ops : Array Oper} {o : Oper} {a : Act} {w : World} {K : Act → World → Prop} {Q : Exit → Act → World → Prop} {E : Prop}
    (hg : o.guard = none) (s x : Operand) (t t' : TypeId) (hop : o.op = Op.call { callee := Callee.builtin Builtin.append, args := #[s, x], argTypes := #[t, t'] })
    (vs vx r : Value) (w1 : World) (hs : a.eval s = vs) (hx : a.eval x = vx) (hrun : (Builtin.append_ #[t, t'] o.type #[vs, vx]).run P w = .ok r w1) (hK : K (a.put o.dst r) w1) :
    if Region.wanted o (yielded ops a.tmps) = true then Oper.wp P o a w K Q else E := by
  have hw : Region.wanted o (yielded ops a.tmps) = true := by simp [Region.wanted, hg]
  rw [if_pos hw]
  unfold Oper.wp
  simp [execOp, hop, resolve, invoke, builtin, hs, hx, hrun, Result.andThen]
  exact hK
theorem val4_one (t lo hi : Int) (nu : Bool) : ∀ u ∈ val4 t lo hi nu, u.oneCell' = true := by
  intro u hu
  simp only [val4, List.mem_cons, List.not_mem_nil, or_false] at hu
  rcases hu with rfl | rfl | rfl | rfl <;> rfl
theorem lit4 (W : World) (t lo hi : Int) (nu : Bool) : Reads4 (W.alloc (Obj.cells #[.int .i64 t, .int .u64 lo, .int .u64 hi, .bool nu] 26)) (some ⟨W.heap.size, 0, none⟩) 1 (val4 t lo hi nu) :=
  (own_reads4 (c := 1) (World.ownsRow_lit (base := 0) (e := 26) (size := 4) W #[.int .i64 t, .int .u64 lo, .int .u64 hi, .bool nu] 1 (Nat.zero_le _) (by decide) rfl) (val4_one t lo hi nu)).1
theorem append4 (W : World) (base n m b : Nat) (v : Value) (xs ys : List Value) (HO : W.ownsRow base 26 4 v n xs) (HR : W.ownsRow 0 26 4 (.slice (some ⟨b, 0, none⟩) m m) m ys) (h1 : ∀ u ∈ ys, u.oneCell' = true) (hn : n + m ≤ 1000000) (hb : base ≤ W.heap.size) :
    ∃ A' c' w', (Builtin.append_ #[38, 38] 38 #[v, .slice (some ⟨b, 0, none⟩) m m]).run Try.prog W = .ok (.slice A' (n + m) c') w' ∧ w'.ownsRow base 26 4 (.slice A' (n + m) c') (n + m) (xs ++ ys) ∧ W.grownBy w' v.ownBlock ∧ ((Value.slice A' (n + m) c').ownBlock = v.ownBlock ∨ (Value.slice A' (n + m) c').ownBlock = some W.heap.size) := by
  obtain ⟨i, hi, hz⟩ := Option.map_eq_some_iff.1 info26
  simp only [Prod.mk.injEq] at hz
  obtain ⟨hz0, hz1, hz2⟩ := hz
  obtain ⟨v', w', q1, q2, q3, _, q5⟩ := run_append_own_at (P := Try.prog) W base 38 38 26 i zero4 4 32 Try.underlying38 hi hz0 hz1 hz2 rfl (by decide) v n xs HO ⟨b, 0, none⟩ m m ys HR.1 (HR.cells (g := b) rfl) h1 (by simp [maxLen]; omega) (by omega) hb
  obtain ⟨A', c', rfl⟩ := own_slice q2
  exact ⟨A', c', w', q1, q2, q3, q5⟩
theorem growT_end {w w6 w7 : World} {base g W n : Nat} {rf mn mx : Int} {hs : Bool} {v v7 : Value} {xs ys : List Value} {r : Int} (H : TblI w base g rf mn mx hs v W xs) (hb6 : Below w.heap.size w w6)
    (hb7 : w7.heap[g]? = some (.cells #[.int .i64 rf, .int .i64 mn, .int .i64 mx, .bool hs, v] 41 (0, 0))) (ho : w7.ownsRow base 26 4 v7 (W + n) (xs ++ ys)) (hg : w6.grownBy w7 v.ownBlock) (ha : v7.ownBlock = v.ownBlock ∨ v7.ownBlock = some w6.heap.size)
    (hb : base ≤ w.heap.size) (h1 : ∀ u ∈ ys, u.oneCell' = true) (hn : W + n ≤ 1000000) :
    GrowT w base g rf mn mx hs v (W + n) (xs ++ ys) r (.returned (.int .i64 r)) (w7.setCell ⟨g, 4, none⟩ v7) := by
  have hgl : g < w.heap.size := blk_lt H.blk
  have hs6 := hb6.size
  have hne : some g ≠ v7.ownBlock := fun e => by
    rcases ha with q | q
    · exact H.ne (e.trans q)
    · rw [q] at e; injection e with e; omega
  have hvb : ∀ k, v.ownBlock = some k → base ≤ k := fun k hk => own_base H.own k hk
  have hgb := H.ge
  have hnb : (w7.setCell ⟨g, 4, none⟩ v7).heap[g]? = some (.cells #[.int .i64 rf, .int .i64 mn, .int .i64 mx, .bool hs, v7] 41 (0, 0)) := by
    have := blk_set hb7 4 v7
    simpa using this
  have hfar : ∀ i, i < w.heap.size → i ≠ g → some i ≠ v.ownBlock → (w7.setCell ⟨g, 4, none⟩ v7).heap[i]? = w.heap[i]? := fun i hi hig hiv =>
    ((Below.heap_setCell w7 ⟨g, 4, none⟩ v7 i hig).trans (hg.block i (by omega) hiv)).trans (hb6.block i hi)
  refine ⟨v7, rfl, ⟨hnb, own_setCell ho (p := ⟨g, 4, none⟩) hne v7, fun u hu => ?_, hgb, hn⟩, hfar, ⟨hg.os.trans hb6.os, hg.tape.trans hb6.tape, hg.output.trans hb6.output, ?_, fun i hi => hfar i (by omega) (by omega) (fun e => by have := hvb i e.symm; omega)⟩, ?_⟩
  · rcases List.mem_append.1 hu with q | q
    · exact H.one u q
    · exact h1 u q
  · have h7 := hg.size
    have : (w7.setCell ⟨g, 4, none⟩ v7).heap.size = w7.heap.size := by simp [World.setCell]
    rw [this]; omega
  · refine ⟨?_, ?_⟩
    · rcases ha with q | q
      · exact .inl q
      · exact .inr ⟨_, q, hs6⟩
    · have h7 := hg.size
      have : (w7.setCell ⟨g, 4, none⟩ v7).heap.size = w7.heap.size := by simp [World.setCell]
      rw [this]; omega
set_option maxHeartbeats 1000000 in
set_option maxRecDepth 100000 in
theorem growT_yes (w : World) (base g : Nat) (rf mn mx : Int) (hs : Bool) (A : Option Addr) (c : Nat) (W : Nat) (xs : List Value) (H : TblI w base g rf mn mx hs (.slice A W c) W xs) (n : Nat) (t lo hi : Int) (nu : Bool) (hb : base ≤ w.heap.size)
    (hyes : (W : Int) ≤ mostT mx hs ∧ (n : Int) ≤ mostT mx hs - (W : Int)) (hx : -9223372036854775808 ≤ mx) :
    Calls Try.prog 13 #[.pointer (some ⟨g, 0, none⟩), .int .u64 (n : Int), .agg #[.int .i64 t, .int .u64 lo, .int .u64 hi, .bool nu]] w (GrowT w base g rf mn mx hs (.slice A W c) (W + n) (xs ++ repC n (val4 t lo hi nu)) (W : Int)) := by
  obtain ⟨mst, hmst⟩ : ∃ m, m = mostT mx hs := ⟨_, rfl⟩
  rw [← hmst] at hyes
  have HMU : Hid (mst ≤ 10000) := Lib.hid (by rw [hmst]; unfold mostT; split <;> omega)
  have HM1 : Hid (hs = true → min 10000 mx = mst) := Lib.hid (fun h => by rw [hmst]; unfold mostT; rw [if_pos h])
  have HM2 : Hid (hs = false → 10000 = mst) := Lib.hid (fun h => by rw [hmst]; unfold mostT; rw [if_neg (by simp [h])])
  have HNO := Lib.hid hyes
  obtain ⟨wa, hwa⟩ : ∃ wa, wa = w.alloc (Obj.cells #[.int .i64 t, .int .u64 lo, .int .u64 hi, .bool nu] 26) := ⟨_, rfl⟩
  have HBA : Hid (Below w.heap.size w wa) := Lib.hid (by rw [hwa]; exact (Below.refl _ _).alloc (Nat.le_refl _) _)
  have hv0 : wa.heap[w.heap.size]? = some (.cells #[.int .i64 t, .int .u64 lo, .int .u64 hi, .bool nu] 26 (0, 0)) := by rw [hwa]; exact heap_alloc_new w _
  have HT := H.below HBA.out
  have HH := Lib.hid HT
  have hcB := HT.cellB
  have hc2 := HT.cell2
  have hc3 := HT.cell3
  have HV0 := Lib.hid hv0
  obtain ⟨pv, hpv⟩ : ∃ pv, pv = w.heap.size := ⟨_, rfl⟩
  rw [← hpv] at hv0 HV0
  have HW0 : Hid (wa.heap.size = w.heap.size + 1) := Lib.hid (by rw [hwa]; show (w.heap.push _).size = _; exact Array.size_push _)
  have H0 := Lib.hid H
  have HHB := Lib.hid hb
  have hl0 := (blk_cell hv0 0).trans (show _ = some (Value.int .i64 t) from rfl)
  have hl1 := (blk_cell hv0 1).trans (show _ = some (Value.int .u64 lo) from rfl)
  have hl2 := (blk_cell hv0 2).trans (show _ = some (Value.int .u64 hi) from rfl)
  have hl3 := (blk_cell hv0 3).trans (show _ = some (Value.bool nu) from rfl)
  have HPV := Lib.hid hpv
  clear hyes hmst hx H HT hb hv0
  go_enter Try.func13, Try.ntmps13
  go_upto_region 1 with fail
  rw [← hwa, ← hpv]
  clear hwa hpv
  go_upto_if 21 with fail
  go_cut [8] (fun v wx => v = .int .i64 mst ∧ wa = wx)
  case first =>
    cases hs
    · go_wp2
      go_meet
      exact ⟨by rw [← HM2.out trivial], rfl⟩
    · go_wp2
      all_goals
        go_meet
        refine ⟨?_, rfl⟩
        rw [← HM1.out trivial]
        congr 1
        omega
  case rest =>
    obtain ⟨rfl, rfl⟩ := hcut
    obtain ⟨d, hd⟩ : ∃ d : Nat, mst = (W : Int) + (d : Int) := ⟨(mst - W).toNat, by have := HNO.out.1; omega⟩
    have hs1 : IntKind.i64.wrap ((W : Int) + (d : Int) - (W : Int)) = (d : Int) := by have := HMU.out; rw [IntKind.wrap_i64]; omega
    have hs2 : IntKind.u64.wrap (d : Int) = (d : Int) := by have := HMU.out; rw [IntKind.wrap_u64]; omega
    have hs3 : (n : Int) ≤ (d : Int) := by have := HNO.out; omega
    have HMU2 : Hid (W + n ≤ 10000 ∧ d ≤ 10000) := Lib.hid (by have := HMU.out; omega)
    have hd2 : (d : Int) ≤ 10000 := by have := HMU2.out; omega
    have hw2 : (W : Int) ≤ 10000 := by have := HMU2.out; omega
    have hs4 : IntKind.i64.wrap (n : Int) = (n : Int) := by have := HMU2.out; rw [IntKind.wrap_i64]; omega
    subst hd
    go_upto_region 8 with fail
    have HB5 : Hid (Below wa.heap.size wa (wa.drew.alloc (Obj.cells #[.int .i64 t, .int .u64 lo, .int .u64 hi, .bool nu] 26))) := Lib.hid ((Below.refl _ _).drew.alloc (Nat.le_refl _) _)
    have hcBd : wa.drew.cell? ⟨g, 4, none⟩ = some (.slice A W c) := hcB
    have hcB5 : (wa.drew.alloc (Obj.cells #[.int .i64 t, .int .u64 lo, .int .u64 hi, .bool nu] 26)).cell? ⟨g, 4, none⟩ = some (.slice A W c) := (HH.out.below HB5.out).cellB
    have hcB5' : (wa.alloc (Obj.cells #[.int .i64 t, .int .u64 lo, .int .u64 hi, .bool nu] 26)).cell? ⟨g, 4, none⟩ = some (.slice A W c) := (HH.out.below ((Below.refl _ _).alloc (Nat.le_refl _) _)).cellB
    have d0 : wa.drew.cell? ⟨pv, 0, none⟩ = _ := hl0
    have d1 : wa.drew.cell? ⟨pv, 1, none⟩ = _ := hl1
    have d2 : wa.drew.cell? ⟨pv, 2, none⟩ = _ := hl2
    have d3 : wa.drew.cell? ⟨pv, 3, none⟩ = _ := hl3
    clear hcB hc2 hc3 hl0 hl1 hl2 hl3
    go_region_law (first | (refine step_append_run rfl (.tmp 45) (.tmp 50) 38 38 rfl (.slice A W c) (.slice (some ⟨b6, 0, none⟩) n n) _ w7 (by simp [Act.eval, Act.put]) (by simp [Act.eval, Act.put]) hrun ?_) | (go_simp; go_at_call 31; (refine (repeat_c (some ⟨wa.heap.size, 0, none⟩) 1 n (val4 t lo hi nu) _ rfl (val4_one t lo hi nu) (lit4 wa.drew t lo hi nu) (by omega)).mono ?_; intro e w6 hq; obtain ⟨b6, he, hown6, hb6⟩ := hq.out; subst he; have HB6 := Lib.hid (HB5.out.trans (hb6.mono HB5.out.size)); have HT6 := Lib.hid (HH.out.below HB6.out); have hcB6 := HT6.out.cellB; obtain ⟨A7, c7, w7, hrun, hown7, hgr7, hat7⟩ := append4 w6 base W n b6 (.slice A W c) xs (repC n (val4 t lo hi nu)) HT6.out.own (own_less hown6 (Nat.zero_le _)) (repC_one (val4_one t lo hi nu)) (by have := HMU2.out; omega) (Nat.le_trans HHB.out (by have h1 := HB6.out.size; have h2 := HW0.out; omega)); have hb7 := (hgr7.block g (blk_lt HT6.out.blk) HT6.out.ne).trans HT6.out.blk; have f7 := blk_frozen hb7 4; have hc7 := (blk_cell hb7 4).trans (show _ = some (Value.slice A W c) from rfl); have HB7 := Lib.hid hb7; have HO7 := Lib.hid hown7; have HG7 := Lib.hid hgr7; have HA7 := Lib.hid hat7; clear hq hown6 hb6 hown7 hgr7 hat7 hb7)))
    all_goals
      go_simp
      go_wp2_with fail
      go_ret
      exact growT_end H0.out (HBA.out.trans (HB6.out.mono HBA.out.size)) HB7.out HO7.out HG7.out HA7.out HHB.out (repC_one (val4_one t lo hi nu)) (by have := HMU2.out; omega)
end Go.Proofs.Ytlllbgmnheikgaa.St
