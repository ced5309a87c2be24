/-
  The walk of the reference's Grow (store). No condition but that the bytes are read.
-/
import Derived.Test.YtlllbgmnheikgaaStO
namespace Go.Proofs.Ytlllbgmnheikgaa.St
set_option linter.unusedVariables false
set_option linter.unusedSimpArgs false
open Go.RowKit Go.Proofs.YtlllbgmnheikgaaW.PrintWords Go.Proofs.YtlllbgmnheikgaaW.PrintMore Go.Proofs.Ytlllbgmnheikgaa.PStoreNone

structure GrowN (w : World) (v0 : Value) (e : Ending) (w' : World) : Prop where mk ::
  (out : e = .returned (.tuple #[v0, .int .i64 (-1)]) ∧ Below w.heap.size w w')
structure GrowY (w : World) (xs : List Int) (r : Int) (e : Ending) (w' : World) : Prop where mk ::
  (out : ∃ v, e = .returned (.tuple #[v, .int .i64 r]) ∧ w'.ownsRow w.heap.size 5 1 v xs.length (nums .u8 xs) ∧ Below w.heap.size w w')
theorem blk3 {w : World} {g : Nat} {a b c : Value} (h : w.heap[g]? = some (.cells #[a, b, c] 23 (0, 0))) : w.cell? ⟨g, 0, none⟩ = some a ∧ w.cell? ⟨g, 1, none⟩ = some b ∧ w.cell? ⟨g, 2, none⟩ = some c :=
  ⟨(blk_cell h 0).trans rfl, (blk_cell h 1).trans rfl, (blk_cell h 2).trans rfl⟩
set_option maxHeartbeats 1000000 in
set_option maxRecDepth 100000 in
theorem growR_no (w : World) (mn mx : Int) (hs : Bool) (A : Option Addr) (c : Nat) (xs : List Int) (hl : xs.length ≤ 140737488351232) (n : Nat) (most : Int) (hn : n < 18446744073709551616)
    (hno : ¬ growOk xs.length n (mostM mx hs most)) (hm : -9223372036854775808 ≤ most) (hx : -9223372036854775808 ≤ mx) :
    Calls Try.prog 9 #[.slice A xs.length c, .agg #[.int .i64 mn, .int .i64 mx, .bool hs], .int .u64 (n : Int), .int .i64 most] w (GrowN w (.slice A xs.length c)) := by
  obtain ⟨m0, hm0⟩ : ∃ m, m = min most 65536 := ⟨_, rfl⟩
  obtain ⟨mst, hmst⟩ : ∃ m, m = mostM mx hs most := ⟨_, rfl⟩
  obtain ⟨W, hW⟩ : ∃ W, W = xs.length / 65536 := ⟨_, rfl⟩
  have HW := Lib.hid hW
  have hWe : (xs.length : Int) / 65536 = (W : Int) := by omega
  have HW2 : Hid (W ≤ 2147483648) := Lib.hid (by omega)
  have HMU : Hid (mst ≤ 65536) := Lib.hid (by rw [hmst]; unfold mostM; split <;> omega)
  have HML : Hid (-9223372036854775808 ≤ mst) := Lib.hid (by rw [hmst]; unfold mostM; split <;> omega)
  have HM1 : Hid (hs = true → min m0 mx = mst) := Lib.hid (fun h => by rw [hmst, hm0]; unfold mostM; rw [if_pos h])
  have HM2 : Hid (hs = false → m0 = mst) := Lib.hid (fun h => by rw [hmst, hm0]; unfold mostM; rw [if_neg (by simp [h])])
  have HNO : Hid (¬ ((W : Int) ≤ mst ∧ (n : Int) ≤ mst - (W : Int))) := Lib.hid (by rw [hmst, hW]; exact hno)
  have HM0 := Lib.hid hm0
  have HN := Lib.hid hn
  obtain ⟨wa, hwa⟩ : ∃ wa, wa = w.alloc (Obj.cells #[.int .i64 mn, .int .i64 mx, .bool hs] 23) := ⟨_, rfl⟩
  have HB : Hid (Below w.heap.size w wa) := Lib.hid (by rw [hwa]; exact (Below.refl _ _).alloc (Nat.le_refl _) _)
  obtain ⟨pv, hpv⟩ : ∃ pv, pv = w.heap.size := ⟨_, rfl⟩
  have hv0 : wa.heap[pv]? = some (.cells #[.int .i64 mn, .int .i64 mx, .bool hs] 23 (0, 0)) := by rw [hwa, hpv]; exact heap_alloc_new w _
  obtain ⟨c0, c1, c2⟩ := blk3 hv0
  clear hm hx hn hmst hno hm0 hW c0 hv0
  go_enter Try.func9, Try.ntmps9
  go_upto_region 1 with fail
  rw [← hwa, ← hpv]
  clear hwa hpv
  go_upto_if 16 with fail
  go_cut [3] (fun v wx => v = .int .i64 m0 ∧ wa = wx)
  case first =>
    go_wp2
    all_goals
      go_meet
      refine ⟨?_, rfl⟩
      rw [HM0.out]
      congr 1
      omega
  case rest =>
    obtain ⟨rfl, rfl⟩ := hcut
    have HF : Hid ((n : Int) ≤ 65536 → mst < (W : Int) + (n : Int)) := Lib.hid (fun _ => by have := HNO.out; omega)
    have tail : ∀ m', m' = mst → (n : Int) ≤ 65536 → m' < (W : Int) + (n : Int) := fun m' e h => by rw [e]; exact HF.out h
    have HT := Lib.hid tail
    clear tail
    have hw2 : (W : Int) ≤ 2147483648 := by have := HW2.out; omega
    cases hs
    · have hE := HM2.out rfl
      by_cases h1 : (n : Int) > 65536
      · clear hE
        go_wp2
        go_ret2
        exact ⟨rfl, HB.out⟩
      · have hs2 : IntKind.i64.wrap (n : Int) = (n : Int) := by rw [IntKind.wrap_i64]; omega
        have hs3 := HT.out m0 hE (by omega)
        clear hE
        go_wp2
        go_ret2
        exact ⟨rfl, HB.out⟩
    · have hE := HM1.out rfl
      by_cases hlt : mx < m0
      · have hE2 : mx = mst := by omega
        by_cases h1 : (n : Int) > 65536
        · clear hE hE2
          go_wp2
          go_ret2
          exact ⟨rfl, HB.out⟩
        · have hs2 : IntKind.i64.wrap (n : Int) = (n : Int) := by rw [IntKind.wrap_i64]; omega
          have hs3 := HT.out mx hE2 (by omega)
          clear hE hE2
          go_wp2
          go_ret2
          exact ⟨rfl, HB.out⟩
      · have hE2 : m0 = mst := by omega
        by_cases h1 : (n : Int) > 65536
        · clear hE hE2
          go_wp2
          go_ret2
          exact ⟨rfl, HB.out⟩
        · have hs2 : IntKind.i64.wrap (n : Int) = (n : Int) := by rw [IntKind.wrap_i64]; omega
          have hs3 := HT.out m0 hE2 (by omega)
          clear hE hE2
          go_wp2
          go_ret2
          exact ⟨rfl, HB.out⟩
theorem zeros_at (w : World) (base : Nat) (v : Value) (xs : List Int) (n : Nat) (HO : w.ownsRow base 5 1 v xs.length (nums .u8 xs)) (hl : xs.length + n * 65536 ≤ 140737488351232) (hb : base ≤ w.heap.size) :
    ∃ v1 w1, (Builtin.append_ #[29, 3] 29 #[v, .int .i64 ((n * 65536 : Nat) : Int)]).run Try.prog w = .ok v1 w1 ∧ w1.ownsRow base 5 1 v1 (xs ++ List.replicate (n * 65536) 0).length (nums .u8 (xs ++ List.replicate (n * 65536) 0)) ∧ w.grownBy w1 v.ownBlock := by
  have hzz := run_append_zeros (P := Try.prog) w base 29 3 29 5 _ (Value.int .u8 0) 1 1 Try.underlying29 (k := .i64) Try.underlying3 (info_parts info5).choose_spec.1 (info_parts info5).choose_spec.2.1 (info_parts info5).choose_spec.2.2.1 (info_parts info5).choose_spec.2.2.2 rfl (by decide) (by decide) v xs.length (nums .u8 xs) HO .i64 (n * 65536) (by rw [zeros_nums]; intro u hu; simp only [nums, List.mem_map] at hu; obtain ⟨q, _, rfl⟩ := hu; rfl) (by omega) hb
  obtain ⟨v1, w1, hrun, hown, hgr, hat⟩ := hzz
  refine ⟨v1, w1, hrun, ?_, hgr⟩
  have hlen : (xs ++ List.replicate (n * 65536) 0).length = xs.length + n * 65536 := by simp
  have hnum : nums .u8 xs ++ (Builtin.zeroCells (Value.int .u8 0).cells (n * 65536)).toList = nums .u8 (xs ++ List.replicate (n * 65536) 0) := by rw [zeros_nums]; simp [nums]
  rw [hlen, ← hnum]
  exact hown
set_option maxHeartbeats 1000000 in
set_option maxRecDepth 100000 in
theorem growR_yes (w : World) (mn mx : Int) (hs : Bool) (A : Option Addr) (c : Nat) (xs : List Int) (hl : xs.length ≤ 140737488351232) (n : Nat) (most : Int) (hn : n < 18446744073709551616)
    (hr : ReadsInt w .u8 A xs.length xs) (hno : growOk xs.length n (mostM mx hs most)) (hm : -9223372036854775808 ≤ most) (hx : -9223372036854775808 ≤ mx) :
    Calls Try.prog 9 #[.slice A xs.length c, .agg #[.int .i64 mn, .int .i64 mx, .bool hs], .int .u64 (n : Int), .int .i64 most] w (GrowY w (xs ++ List.replicate (n * 65536) 0) ((xs.length / 65536 : Nat) : Int)) := by
  obtain ⟨m0, hm0⟩ : ∃ m, m = min most 65536 := ⟨_, rfl⟩
  obtain ⟨mst, hmst⟩ : ∃ m, m = mostM mx hs most := ⟨_, rfl⟩
  obtain ⟨W, hW⟩ : ∃ W, W = xs.length / 65536 := ⟨_, rfl⟩
  have HW := Lib.hid hW
  have hWe : (xs.length : Int) / 65536 = (W : Int) := by omega
  have HW2 : Hid (W ≤ 2147483648) := Lib.hid (by omega)
  have HMU : Hid (mst ≤ 65536) := Lib.hid (by rw [hmst]; unfold mostM; split <;> omega)
  have HML : Hid (-9223372036854775808 ≤ mst) := Lib.hid (by rw [hmst]; unfold mostM; split <;> omega)
  have HM1 : Hid (hs = true → min m0 mx = mst) := Lib.hid (fun h => by rw [hmst, hm0]; unfold mostM; rw [if_pos h])
  have HM2 : Hid (hs = false → m0 = mst) := Lib.hid (fun h => by rw [hmst, hm0]; unfold mostM; rw [if_neg (by simp [h])])
  have HNO : Hid (((W : Int) ≤ mst ∧ (n : Int) ≤ mst - (W : Int))) := Lib.hid (by rw [hmst, hW]; exact hno)
  have HR := Lib.hid hr
  have HM0 := Lib.hid hm0
  have HN := Lib.hid hn
  obtain ⟨wa, hwa⟩ : ∃ wa, wa = w.alloc (Obj.cells #[.int .i64 mn, .int .i64 mx, .bool hs] 23) := ⟨_, rfl⟩
  have HB : Hid (Below w.heap.size w wa) := Lib.hid (by rw [hwa]; exact (Below.refl _ _).alloc (Nat.le_refl _) _)
  obtain ⟨pv, hpv⟩ : ∃ pv, pv = w.heap.size := ⟨_, rfl⟩
  have hv0 : wa.heap[pv]? = some (.cells #[.int .i64 mn, .int .i64 mx, .bool hs] 23 (0, 0)) := by rw [hwa, hpv]; exact heap_alloc_new w _
  obtain ⟨c0, c1, c2⟩ := blk3 hv0
  rw [← hW]
  clear hm hx hn hmst hno hm0 hW c0 hv0 hr
  go_enter Try.func9, Try.ntmps9
  go_upto_region 1 with fail
  rw [← hwa, ← hpv]
  clear hwa hpv
  go_upto_if 16 with fail
  go_cut [3] (fun v wx => v = .int .i64 m0 ∧ wa = wx)
  case first =>
    go_wp2
    all_goals
      go_meet
      refine ⟨?_, rfl⟩
      rw [HM0.out]
      congr 1
      omega
  case rest =>
    obtain ⟨rfl, rfl⟩ := hcut
    have HF : Hid ((W : Int) + (n : Int) ≤ mst) := Lib.hid (by have := HNO.out; omega)
    have tail : ∀ m', m' = mst → (W : Int) + (n : Int) ≤ m' := fun m' e => by rw [e]; exact HF.out
    have HT := Lib.hid tail
    clear tail
    have h1 : (n : Int) ≤ 65536 := by have := HNO.out; have := HMU.out; omega
    have hw2 : (W : Int) ≤ 65536 := by have := HNO.out; have := HMU.out; omega
    have hs2 : IntKind.i64.wrap (n : Int) = (n : Int) := by rw [IntKind.wrap_i64]; omega
    have hs4 : IntKind.i64.wrap ((n : Int) * 65536) = ((n * 65536 : Nat) : Int) := by rw [IntKind.wrap_i64]; omega
    have HLX : Hid ((([] : List Int).length + xs.length) * 1 ≤ 140737488355328) := Lib.hid (by simp; omega)
    have HLN : Hid (xs.length + n * 65536 ≤ 140737488351232) := Lib.hid (by have := HW.out; omega)
    cases hs
    · have hE := HM2.out rfl
      have hs3 := HT.out m0 hE
      clear hE
      go_wp2_with (at_builtin; go_loud (first | (refine print_append_row (w0 := w) w.heap.size rfl (.tmp 38) (.tmp 39) 29 5 .u8 1 rfl Try.underlying29 info5 (by decide) (.slice none 0 0) [] xs A xs.length c (by first | (go_simp; done) | (go_simp; rfl) | rfl) (by first | (go_simp; done) | (go_simp; rfl) | rfl) (own_nil _ _ _ _) (HR.out.below HB.out) HB.out HB.out.size HLX.out ?_; intro v1 w2 hown hbl hg hat; have HO := Lib.hid (show w2.ownsRow w.heap.size 5 1 v1 xs.length (nums .u8 xs) from by simpa using hown); have HB2 := Lib.hid hbl; obtain ⟨v9, w9, hrun, ho9, hg9⟩ := zeros_at w2 w.heap.size v1 xs n HO.out (by have := HLN.out; omega) HB2.out.size; have HRUN := Lib.hid hrun; have HO9 := Lib.hid ho9; have HB9 := Lib.hid (HB2.out.grown hg9 HB2.out.size (own_base HO.out)); clear hown hbl hg hat hrun ho9 hg9 c1 c2) | (refine step_append rfl (.tmp 41) (.tmp 44) 29 3 rfl v1 (.int .i64 ((n * 65536 : Nat) : Int)) v9 w9 (by first | (go_simp; done) | (go_simp; rfl) | rfl) (by first | (go_simp; done) | (go_simp; rfl) | rfl) HRUN.out ?_)))
      go_ret2
      exact ⟨_, rfl, HO9.out, HB9.out⟩
    · have hE := HM1.out rfl
      by_cases hlt : mx < m0
      · have hE2 : mx = mst := by omega
        have hs3 := HT.out mx hE2
        clear hE hE2
        go_wp2_with (at_builtin; go_loud (first | (refine print_append_row (w0 := w) w.heap.size rfl (.tmp 38) (.tmp 39) 29 5 .u8 1 rfl Try.underlying29 info5 (by decide) (.slice none 0 0) [] xs A xs.length c (by first | (go_simp; done) | (go_simp; rfl) | rfl) (by first | (go_simp; done) | (go_simp; rfl) | rfl) (own_nil _ _ _ _) (HR.out.below HB.out) HB.out HB.out.size HLX.out ?_; intro v1 w2 hown hbl hg hat; have HO := Lib.hid (show w2.ownsRow w.heap.size 5 1 v1 xs.length (nums .u8 xs) from by simpa using hown); have HB2 := Lib.hid hbl; obtain ⟨v9, w9, hrun, ho9, hg9⟩ := zeros_at w2 w.heap.size v1 xs n HO.out (by have := HLN.out; omega) HB2.out.size; have HRUN := Lib.hid hrun; have HO9 := Lib.hid ho9; have HB9 := Lib.hid (HB2.out.grown hg9 HB2.out.size (own_base HO.out)); clear hown hbl hg hat hrun ho9 hg9 c1 c2) | (refine step_append rfl (.tmp 41) (.tmp 44) 29 3 rfl v1 (.int .i64 ((n * 65536 : Nat) : Int)) v9 w9 (by first | (go_simp; done) | (go_simp; rfl) | rfl) (by first | (go_simp; done) | (go_simp; rfl) | rfl) HRUN.out ?_)))
        go_ret2
        exact ⟨_, rfl, HO9.out, HB9.out⟩
      · have hE2 : m0 = mst := by omega
        have hs3 := HT.out m0 hE2
        clear hE hE2
        go_wp2_with (at_builtin; go_loud (first | (refine print_append_row (w0 := w) w.heap.size rfl (.tmp 38) (.tmp 39) 29 5 .u8 1 rfl Try.underlying29 info5 (by decide) (.slice none 0 0) [] xs A xs.length c (by first | (go_simp; done) | (go_simp; rfl) | rfl) (by first | (go_simp; done) | (go_simp; rfl) | rfl) (own_nil _ _ _ _) (HR.out.below HB.out) HB.out HB.out.size HLX.out ?_; intro v1 w2 hown hbl hg hat; have HO := Lib.hid (show w2.ownsRow w.heap.size 5 1 v1 xs.length (nums .u8 xs) from by simpa using hown); have HB2 := Lib.hid hbl; obtain ⟨v9, w9, hrun, ho9, hg9⟩ := zeros_at w2 w.heap.size v1 xs n HO.out (by have := HLN.out; omega) HB2.out.size; have HRUN := Lib.hid hrun; have HO9 := Lib.hid ho9; have HB9 := Lib.hid (HB2.out.grown hg9 HB2.out.size (own_base HO.out)); clear hown hbl hg hat hrun ho9 hg9 c1 c2) | (refine step_append rfl (.tmp 41) (.tmp 44) 29 3 rfl v1 (.int .i64 ((n * 65536 : Nat) : Int)) v9 w9 (by first | (go_simp; done) | (go_simp; rfl) | rfl) (by first | (go_simp; done) | (go_simp; rfl) | rfl) HRUN.out ?_)))
        go_ret2
        exact ⟨_, rfl, HO9.out, HB9.out⟩
end Go.Proofs.Ytlllbgmnheikgaa.St
