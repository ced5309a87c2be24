/-
  The walk of a memory's Grow (store). No condition but that the memory's block is one, its bytes a row of one's own.
-/
import Derived.Test.YtlllbgmnheikgaaStD
namespace Go.Proofs.Ytlllbgmnheikgaa.St
set_option linter.unusedVariables false
set_option linter.unusedSimpArgs false
open Go.RowKit Go.Proofs.YtlllbgmnheikgaaW.PrintWords Go.Proofs.YtlllbgmnheikgaaW.PrintMore Go.Proofs.Ytlllbgmnheikgaa.PStoreNone
attribute [local go_sem] max2_int min2_int max_two min_two

theorem step_append {P : Program} {ops : Array Oper} {rest : List Oper} {o : Oper} {a : Act} {Q : Exit → Act → World → Prop} {W : World} (hgd : o.guard = none) (s x : Operand) (t t' : TypeId)
    (ho : o.op = .call { callee := .builtin .append, args := #[s, x], argTypes := #[t, t'] }) (vs vx r : Value) (w1 : World) (hs : a.eval s = vs) (hx : a.eval x = vx) (hr : (Builtin.append_ #[t, t'] o.type #[vs, vx]).run P W = .ok r w1)
    (h : wpList P ops Q rest (a.put o.dst r) w1) : wpList P ops Q (o :: rest) a W := by
  refine wpList_plain hgd fun K hK => ?_
  unfold Oper.wp execOp
  simp only [ho, resolve, invoke, builtin, Sem.run_bind, Sem.run_pure, Result.andThen_ok, List.map_toArray, List.map_cons, List.map_nil, hs, hx, hr]
  exact hK _ _ h
theorem zeros_nums (m : Nat) : (Builtin.zeroCells (Value.int .u8 0).cells m).toList = nums .u8 (List.replicate m 0) := by
  simp [Builtin.zeroCells, nums, Value.cells]
  apply List.ext_getElem
  · simp
  · intro i h1 h2
    simp [Nat.mod_one]

/-- How many pages there may be. -/
def mostM (mx : Int) (hs : Bool) (most : Int) : Int := if hs = true then min (min most 65536) mx else min most 65536
def growOk (k n : Nat) (mst : Int) : Prop := ((k / 65536 : Nat) : Int) ≤ mst ∧ (n : Int) ≤ mst - ((k / 65536 : Nat) : Int)
instance (k n : Nat) (mst : Int) : Decidable (growOk k n mst) := by unfold growOk; infer_instance
structure GrowQ (w : World) (base g : Nat) (mn mx : Int) (hs : Bool) (v0 : Value) (xs : List Int) (r : Int) (e : Ending) (w' : World) : Prop where mk ::
  (out : ∃ v, e = .returned (.int .i64 r) ∧ MemI w' base g mn mx hs v xs ∧ (∀ i, i < w.heap.size → i ≠ g → some i ≠ v0.ownBlock → w'.heap[i]? = w.heap[i]?) ∧ Below base w w' ∧ (v.ownBlock = v0.ownBlock ∨ ∃ b, v.ownBlock = some b ∧ w.heap.size ≤ b) ∧ w.heap.size ≤ w'.heap.size)
set_option maxRecDepth 100000 in
theorem grow_no (w : World) (base g : Nat) (mn mx : Int) (hs : Bool) (A : Option Addr) (c : Nat) (xs : List Int) (H : MemI w base g mn mx hs (.slice A xs.length c) xs) (n : Nat) (most : Int) (hn : n < 18446744073709551616) (hb : base ≤ w.heap.size)
    (hno : ¬ growOk xs.length n (mostM mx hs most)) (hm : -9223372036854775808 ≤ most) (hx : -9223372036854775808 ≤ mx) :
    Calls Try.prog 10 #[.pointer (some ⟨g, 0, none⟩), .int .u64 (n : Int), .int .i64 most] w (GrowQ w base g mn mx hs (.slice A xs.length c) xs (-1)) := by
  have HH := Lib.hid H
  have hcB := H.cellB
  have hc1 := H.cell1
  have hc2 := H.cell2
  have hlt := H.len
  clear H
  obtain ⟨m0, hm0⟩ : ∃ m, m = min most 65536 := ⟨_, rfl⟩
  obtain ⟨mst, hmst⟩ : ∃ m, m = mostM mx hs most := ⟨_, rfl⟩
  obtain ⟨W, hW⟩ : ∃ W, W = xs.length / 65536 := ⟨_, rfl⟩
  have HW := Lib.hid hW
  have hWe : (xs.length : Int) / 65536 = (W : Int) := by omega
  have HW2 : Hid (W ≤ 2147483648) := Lib.hid (by omega)
  have HMU : Hid (mst ≤ 65536) := Lib.hid (by rw [hmst]; unfold mostM; split <;> omega)
  have HML : Hid (-9223372036854775808 ≤ mst) := Lib.hid (by rw [hmst]; unfold mostM; split <;> omega)
  have HM1 : Hid (hs = true → min m0 mx = mst) := Lib.hid (fun h => by rw [hmst, hm0]; unfold mostM; rw [if_pos h])
  have HM2 : Hid (hs = false → m0 = mst) := Lib.hid (fun h => by rw [hmst, hm0]; unfold mostM; rw [if_neg (by simp [h])])
  have HNO : Hid (¬ ((W : Int) ≤ mst ∧ (n : Int) ≤ mst - (W : Int))) := Lib.hid (by rw [hmst, hW]; exact hno)
  have HM0 := Lib.hid hm0
  have HN := Lib.hid hn
  clear hm hx hn hmst hno hm0 hW
  go_enter Try.func10, Try.ntmps10
  go_upto_region 4 with fail
  go_cut [2] (fun v wx => v = .int .i64 m0 ∧ w = wx)
  case first =>
    go_wp2
    all_goals
      go_meet
      refine ⟨?_, rfl⟩
      rw [HM0.out]
      congr 1
      omega
  case rest =>
    obtain ⟨rfl, rfl⟩ := hcut
    go_upto_if 22 with fail
    go_cut [2] (fun v wx => v = .int .i64 mst ∧ w = wx)
    case first =>
      cases hs
      · go_wp2
        go_meet
        exact ⟨by rw [HM2.out trivial], rfl⟩
      · go_wp2
        all_goals
          go_meet
          refine ⟨?_, rfl⟩
          rw [← HM1.out trivial]
          congr 1
          omega
    case rest =>
      obtain ⟨rfl, rfl⟩ := hcut
      by_cases h1 : (W : Int) ≤ mst
      · obtain ⟨d, hd⟩ : ∃ d : Nat, mst = (W : Int) + (d : Int) := ⟨(mst - W).toNat, by omega⟩
        have hs1 : IntKind.i64.wrap ((W : Int) + (d : Int) - (W : Int)) = (d : Int) := by have := HMU.out; have := HW2.out; rw [IntKind.wrap_i64]; omega
        have hs2 : IntKind.u64.wrap (d : Int) = (d : Int) := by have := HMU.out; rw [IntKind.wrap_u64]; omega
        have hs3 : (d : Int) < (n : Int) := by have := HNO.out; omega
        have HMU2 : Hid ((d : Int) ≤ 65536) := Lib.hid (by have := HMU.out; omega)
        have hd2 : (d : Int) ≤ 65536 := HMU2.out
        have hw2 : (W : Int) ≤ 2147483648 := by have := HW2.out; omega
        subst hd
        clear h1
        go_wp2
        go_ret
        exact ⟨_, rfl, HH.out, fun _ _ _ _ => rfl, Below.refl _ _, .inl rfl, Nat.le_refl _⟩
      · have h2 : mst < (W : Int) := by omega
        clear h1
        go_wp2
        go_ret
        exact ⟨_, rfl, HH.out, fun _ _ _ _ => rfl, Below.refl _ _, .inl rfl, Nat.le_refl _⟩
set_option maxRecDepth 100000 in
theorem grow_yes (w : World) (base g : Nat) (mn mx : Int) (hs : Bool) (A : Option Addr) (c : Nat) (xs : List Int) (H : MemI w base g mn mx hs (.slice A xs.length c) xs) (n : Nat) (most : Int) (hn : n < 18446744073709551616) (hb : base ≤ w.heap.size)
    (hyes : growOk xs.length n (mostM mx hs most)) (hm : -9223372036854775808 ≤ most) (hx : -9223372036854775808 ≤ mx) :
    Calls Try.prog 10 #[.pointer (some ⟨g, 0, none⟩), .int .u64 (n : Int), .int .i64 most] w (GrowQ w base g mn mx hs (.slice A xs.length c) (xs ++ List.replicate (n * 65536) 0) ((xs.length / 65536 : Nat) : Int)) := by
  have HH := Lib.hid H
  have hcB := H.cellB
  have hc1 := H.cell1
  have hc2 := H.cell2
  have hlt := H.len
  clear H
  obtain ⟨m0, hm0⟩ : ∃ m, m = min most 65536 := ⟨_, rfl⟩
  obtain ⟨mst, hmst⟩ : ∃ m, m = mostM mx hs most := ⟨_, rfl⟩
  obtain ⟨W, hW⟩ : ∃ W, W = xs.length / 65536 := ⟨_, rfl⟩
  have HW := Lib.hid hW
  have hWe : (xs.length : Int) / 65536 = (W : Int) := by omega
  have HW2 : Hid (W ≤ 2147483648) := Lib.hid (by omega)
  have HMU : Hid (mst ≤ 65536) := Lib.hid (by rw [hmst]; unfold mostM; split <;> omega)
  have HML : Hid (-9223372036854775808 ≤ mst) := Lib.hid (by rw [hmst]; unfold mostM; split <;> omega)
  have HM1 : Hid (hs = true → min m0 mx = mst) := Lib.hid (fun h => by rw [hmst, hm0]; unfold mostM; rw [if_pos h])
  have HM2 : Hid (hs = false → m0 = mst) := Lib.hid (fun h => by rw [hmst, hm0]; unfold mostM; rw [if_neg (by simp [h])])
  have HNO : Hid ((W : Int) ≤ mst ∧ (n : Int) ≤ mst - (W : Int)) := Lib.hid (by rw [hmst, hW]; exact hyes)
  have HM0 := Lib.hid hm0
  have HN := Lib.hid hn
  rw [← hW]
  clear hm hx hn hmst hyes hm0 hW
  go_enter Try.func10, Try.ntmps10
  go_upto_region 4 with fail
  go_cut [2] (fun v wx => v = .int .i64 m0 ∧ w = wx)
  case first =>
    go_wp2
    all_goals
      go_meet
      refine ⟨?_, rfl⟩
      rw [HM0.out]
      congr 1
      omega
  case rest =>
    obtain ⟨rfl, rfl⟩ := hcut
    go_upto_if 22 with fail
    go_cut [2] (fun v wx => v = .int .i64 mst ∧ w = wx)
    case first =>
      cases hs
      · go_wp2
        go_meet
        exact ⟨by rw [HM2.out trivial], rfl⟩
      · go_wp2
        all_goals
          go_meet
          refine ⟨?_, rfl⟩
          rw [← HM1.out trivial]
          congr 1
          omega
    case rest =>
      obtain ⟨rfl, rfl⟩ := hcut
      obtain ⟨d, hd⟩ : ∃ d : Nat, mst = (W : Int) + (d : Int) := ⟨(mst - W).toNat, by have := HNO.out.1; omega⟩
      have hs1 : IntKind.i64.wrap ((W : Int) + (d : Int) - (W : Int)) = (d : Int) := by have := HMU.out; have := HW2.out; rw [IntKind.wrap_i64]; omega
      have hs2 : IntKind.u64.wrap (d : Int) = (d : Int) := by have := HMU.out; rw [IntKind.wrap_u64]; omega
      have hs3 : (n : Int) ≤ (d : Int) := by have := HNO.out; omega
      have HMU2 : Hid (W + n ≤ 65536 ∧ d ≤ 65536) := Lib.hid (by have := HMU.out; omega)
      have hd2 : (d : Int) ≤ 65536 := by have := HMU2.out; omega
      have hw2 : (W : Int) ≤ 65536 := by have := HMU2.out; omega
      have hs4 : IntKind.u64.wrap ((n : Int) * 65536) = ((n * 65536 : Nat) : Int) := by have := HMU2.out; rw [IntKind.wrap_u64]; omega
      have HLN : Hid (xs.length + n * 65536 ≤ 140737488351232) := Lib.hid (by have := HMU2.out; have := HW.out; omega)
      subst hd
      by_cases hn0 : n = 0
      · have hn1 : (n : Int) ≤ 0 := by omega
        have HN0 := Lib.hid hn0
        clear hn0
        go_wp2
        go_ret
        refine ⟨_, rfl, ?_, fun _ _ _ _ => rfl, Below.refl _ _, .inl rfl, Nat.le_refl _⟩
        rw [HN0.out]
        simpa using HH.out
      · have hn1 : (0 : Int) < n := by omega
        clear hn0
        have hzz := run_append_zeros (P := Try.prog) w base 29 24 29 5 _ (Value.int .u8 0) 1 1 Try.underlying29 (k := .u64) Try.underlying24 (info_parts info5).choose_spec.1 (info_parts info5).choose_spec.2.1 (info_parts info5).choose_spec.2.2.1 (info_parts info5).choose_spec.2.2.2 rfl (by decide) (by decide) (.slice A xs.length c) xs.length (nums .u8 xs) HH.out.own .u64 (n * 65536) (by rw [zeros_nums]; intro u hu; simp only [nums, List.mem_map] at hu; obtain ⟨q, _, rfl⟩ := hu; rfl) (by have := HLN.out; omega) hb
        obtain ⟨v1, w1, hrun, hown, hgr, hat⟩ := hzz
        obtain ⟨A9, c9, rfl⟩ := own_slice hown
        have hrun1 : (Builtin.append_ #[29, 24] 29 #[.slice A xs.length c, .int .u64 ((n * 65536 : Nat) : Int)]).run Try.prog w = .ok (Value.slice A9 (xs.length + n * 65536) c9) w1 := hrun
        have hb1 : w1.heap[g]? = _ := (hgr.block g (blk_lt HH.out.blk) HH.out.ne).trans HH.out.blk
        have f1 := blk_frozen hb1 3
        have hcB1 : w1.cell? ⟨g, 3, none⟩ = some (.slice A xs.length c) := (blk_cell hb1 3).trans rfl
        have HB1 := Lib.hid hb1
        have HO := Lib.hid hown
        have HG := Lib.hid hgr
        have HA := Lib.hid hat
        have HRUN := Lib.hid hrun1
        clear hrun hrun1 hown hgr hat hb1
        go_wp2_with (at_builtin; go_loud (refine step_append rfl (.tmp 47) (.tmp 49) 29 24 rfl (.slice A xs.length c) (.int .u64 ((n * 65536 : Nat) : Int)) (Value.slice A9 (xs.length + n * 65536) c9) w1 (by first | (go_simp; done) | (go_simp; rfl) | rfl) (by first | (go_simp; done) | (go_simp; rfl) | rfl) HRUN.out ?_; clear hcB hc1 hc2))
        go_ret
        have hgb : base ≤ g := HH.out.ge
        have hgl : g < w.heap.size := blk_lt HH.out.blk
        have hne : some g ≠ (Value.slice A9 (xs.length + n * 65536) c9).ownBlock := fun e => by
          rcases HA.out with q | q
          · exact HH.out.ne (e.trans q)
          · rw [q] at e; injection e with e; omega
        have hvb : ∀ k, (Value.slice A xs.length c).ownBlock = some k → base ≤ k := fun k hk => own_base HH.out.own k hk
        have hlen : (xs ++ List.replicate (n * 65536) 0).length = xs.length + n * 65536 := by simp
        have hnum : nums .u8 xs ++ (Builtin.zeroCells (Value.int .u8 0).cells (n * 65536)).toList = nums .u8 (xs ++ List.replicate (n * 65536) 0) := by rw [zeros_nums]; simp [nums]
        have hnb : (w1.setCell ⟨g, 3, none⟩ (Value.slice A9 (xs.length + n * 65536) c9)).heap[g]? = some (.cells #[.int .i64 mn, .int .i64 mx, .bool hs, (Value.slice A9 (xs.length + n * 65536) c9)] 31 (0, 0)) := by
          have := blk_set HB1.out 3 (Value.slice A9 (xs.length + n * 65536) c9)
          simpa using this
        refine ⟨(Value.slice A9 (xs.length + n * 65536) c9), rfl, ⟨hnb, ?_, hgb, by rw [hlen]; exact HLN.out⟩, fun i hi hig hiv => ?_, ?_, ?_⟩
        · rw [hlen, ← hnum]; exact own_setCell HO.out (p := ⟨g, 3, none⟩) hne (Value.slice A9 (xs.length + n * 65536) c9)
        · exact (Below.heap_setCell w1 ⟨g, 3, none⟩ (Value.slice A9 (xs.length + n * 65536) c9) i hig).trans (HG.out.block i hi hiv)
        · exact ⟨HG.out.os, HG.out.tape, HG.out.output, by show w.heap.size ≤ _; simpa [World.setCell] using HG.out.size, fun i hi => (Below.heap_setCell w1 ⟨g, 3, none⟩ (Value.slice A9 (xs.length + n * 65536) c9) i (show i ≠ g by omega)).trans (HG.out.block i (by omega) (fun e => by have := hvb i e.symm; omega))⟩
        · refine ⟨?_, by simpa [World.setCell] using HG.out.size⟩
          rcases HA.out with q | q
          · exact .inl q
          · exact .inr ⟨_, q, Nat.le_refl _⟩
theorem growM_c (w : World) (base g : Nat) (mn mx : Int) (hs : Bool) (v : Value) (xs : List Int) (H : MemI w base g mn mx hs v xs) (n : Nat) (most : Int) (hn : n < 18446744073709551616) (hb : base ≤ w.heap.size) (hm : -9223372036854775808 ≤ most) (hx : -9223372036854775808 ≤ mx) :
    Calls Try.prog 10 #[.pointer (some ⟨g, 0, none⟩), .int .u64 (n : Int), .int .i64 most] w (GrowQ w base g mn mx hs v (if growOk xs.length n (mostM mx hs most) then xs ++ List.replicate (n * 65536) 0 else xs) (if growOk xs.length n (mostM mx hs most) then ((xs.length / 65536 : Nat) : Int) else -1)) := by
  obtain ⟨A, c, rfl⟩ := own_slice H.own
  by_cases h : growOk xs.length n (mostM mx hs most)
  · rw [if_pos h, if_pos h]; exact grow_yes w base g mn mx hs A c xs H n most hn hb h hm hx
  · rw [if_neg h, if_neg h]; exact grow_no w base g mn mx hs A c xs H n most hn hb h hm hx
end Go.Proofs.Ytlllbgmnheikgaa.St
