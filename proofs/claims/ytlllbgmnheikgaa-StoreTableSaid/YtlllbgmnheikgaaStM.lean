/-
  The walk of a table's Grow where it does not grow (store). No condition but that the table's block is one, its values a row of one's own.
-/
import Derived.Test.YtlllbgmnheikgaaStJ
namespace Go.Proofs.Ytlllbgmnheikgaa.St
set_option linter.unusedVariables false
set_option linter.unusedSimpArgs false
open Go.RowKit Go.Proofs.YtlllbgmnheikgaaW.PrintWords Go.Proofs.YtlllbgmnheikgaaW.PrintMore Go.Proofs.Ytlllbgmnheikgaa.PStoreNone
attribute [local go_sem] max2_int min2_int max_two min_two
set_option maxHeartbeats 1000000 in
set_option maxRecDepth 100000 in
theorem growT_no (w : World) (base g : Nat) (rf mn mx : Int) (hs : Bool) (A : Option Addr) (c : Nat) (W : Nat) (xs : List Value) (H : TblI w base g rf mn mx hs (.slice A W c) W xs) (n : Nat) (t lo hi : Int) (nu : Bool) (hb : base ≤ w.heap.size)
    (hyes : ¬ ((W : Int) ≤ mostT mx hs ∧ (n : Int) ≤ mostT mx hs - (W : Int))) (hx : -9223372036854775808 ≤ mx) :
    Calls Try.prog 13 #[.pointer (some ⟨g, 0, none⟩), .int .u64 (n : Int), .agg #[.int .i64 t, .int .u64 lo, .int .u64 hi, .bool nu]] w (GrowT w base g rf mn mx hs (.slice A W c) W xs (-1)) := by
  obtain ⟨mst, hmst⟩ : ∃ m, m = mostT mx hs := ⟨_, rfl⟩
  rw [← hmst] at hyes
  have HMU : Hid (mst ≤ 10000) := Lib.hid (by rw [hmst]; unfold mostT; split <;> omega)
  have HM1 : Hid (hs = true → min 10000 mx = mst) := Lib.hid (fun h => by rw [hmst]; unfold mostT; rw [if_pos h])
  have HM2 : Hid (hs = false → 10000 = mst) := Lib.hid (fun h => by rw [hmst]; unfold mostT; rw [if_neg (by simp [h])])
  have HNO := Lib.hid hyes
  have HML : Hid (-9223372036854775808 ≤ mst) := Lib.hid (by rw [hmst]; unfold mostT; split <;> omega)
  obtain ⟨wa, hwa⟩ : ∃ wa, wa = w.alloc (Obj.cells #[.int .i64 t, .int .u64 lo, .int .u64 hi, .bool nu] 26) := ⟨_, rfl⟩
  have HBA : Hid (Below w.heap.size w wa) := Lib.hid (by rw [hwa]; exact (Below.refl _ _).alloc (Nat.le_refl _) _)
  have hv0 : wa.heap[w.heap.size]? = some (.cells #[.int .i64 t, .int .u64 lo, .int .u64 hi, .bool nu] 26 (0, 0)) := by rw [hwa]; exact heap_alloc_new w _
  have HT := H.below HBA.out
  have HH := Lib.hid HT
  have hcB := HT.cellB
  have hc2 := HT.cell2
  have hc3 := HT.cell3
  have HV0 := Lib.hid hv0
  obtain ⟨pv, hpv⟩ : ∃ pv, pv = w.heap.size := ⟨_, rfl⟩
  rw [← hpv] at hv0 HV0
  have HW0 : Hid (wa.heap.size = w.heap.size + 1) := Lib.hid (by rw [hwa]; show (w.heap.push _).size = _; exact Array.size_push _)
  have H0 := Lib.hid H
  have HHB := Lib.hid hb
  have hl0 := (blk_cell hv0 0).trans (show _ = some (Value.int .i64 t) from rfl)
  have hl1 := (blk_cell hv0 1).trans (show _ = some (Value.int .u64 lo) from rfl)
  have hl2 := (blk_cell hv0 2).trans (show _ = some (Value.int .u64 hi) from rfl)
  have hl3 := (blk_cell hv0 3).trans (show _ = some (Value.bool nu) from rfl)
  have HPV := Lib.hid hpv
  clear hyes hmst hx H HT hb hv0
  go_enter Try.func13, Try.ntmps13
  go_upto_region 1 with fail
  rw [← hwa, ← hpv]
  clear hwa hpv
  go_upto_if 21 with fail
  go_cut [8] (fun v wx => v = .int .i64 mst ∧ wa = wx)
  case first =>
    cases hs
    · go_wp2
      go_meet
      exact ⟨by rw [← HM2.out trivial], rfl⟩
    · go_wp2
      all_goals
        go_meet
        refine ⟨?_, rfl⟩
        rw [← HM1.out trivial]
        congr 1
        omega
  case rest =>
    obtain ⟨rfl, rfl⟩ := hcut
    have hfin : GrowT w base g rf mn mx hs (.slice A W c) W xs (-1) (.returned (.int .i64 (-1))) wa := by
      refine ⟨_, rfl, HH.out, fun i hi _ _ => HBA.out.block i hi, ?_, .inl rfl, HBA.out.size⟩
      exact ⟨HBA.out.os, HBA.out.tape, HBA.out.output, HBA.out.size, fun k hk => HBA.out.block k (Nat.lt_of_lt_of_le hk HHB.out)⟩
    have HF := Lib.hid hfin
    clear hfin
    by_cases h1 : (W : Int) ≤ mst
    · obtain ⟨d, hd⟩ : ∃ d : Nat, mst = (W : Int) + (d : Int) := ⟨(mst - W).toNat, by omega⟩
      have hw3 : (W : Int) ≤ 1000000 := by have := HH.out.len; omega
      have hs1 : IntKind.i64.wrap ((W : Int) + (d : Int) - (W : Int)) = (d : Int) := by have := HMU.out; rw [IntKind.wrap_i64]; omega
      have hs2 : IntKind.u64.wrap (d : Int) = (d : Int) := by have := HMU.out; rw [IntKind.wrap_u64]; omega
      have hs3 : (d : Int) < (n : Int) := by have := HNO.out; omega
      have hd2 : (d : Int) ≤ 10000 := by have := HMU.out; omega
      subst hd
      clear h1 hc2 hc3 hl0 hl1 hl2 hl3
      go_wp2
      go_ret
      exact HF.out
    · have h2 : mst < (W : Int) := by omega
      clear h1 hc2 hc3 hl0 hl1 hl2 hl3
      go_wp2
      go_ret
      exact HF.out
end Go.Proofs.Ytlllbgmnheikgaa.St
