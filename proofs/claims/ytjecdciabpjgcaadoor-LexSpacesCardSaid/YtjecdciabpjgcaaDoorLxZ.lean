/-
  The walk of the reference's Quote. Condition: the text is no longer than 1000000 bytes.
-/
import Derived.Test.YtjecdciabpjgcaaDoorLxN
namespace Go.Proofs.YtjecdciabpjgcaaDoor.Lx
set_option linter.unusedVariables false
set_option linter.unusedSimpArgs false
open Go.RowKit Go.Proofs.YtjecdciabpjgcaaDoorW.PrintWords Go.Proofs.YtjecdciabpjgcaaDoorW.PrintLast Go.Proofs.YtjecdciabpjgcaaDoor.PLx Go.Proofs.YtjecdciabpjgcaaDoor.Lb

def RqR (w : World) (s : ByteArray) (R : List UInt8) (v4 v5 : Value) (wr : World) : Prop :=
  ∃ (n : Nat) (out : List UInt8), v5 = .int .i64 (n : Int) ∧ n ≤ s.size ∧ Below w.heap.size w wr ∧ wr.ownsRow w.heap.size 5 1 v4 (nb out).length (nums .u8 (nb out)) ∧ out.length ≤ 4 * n + 1 ∧ out ++ (s.data.toList.drop n).flatMap quo1 = R
set_option maxRecDepth 1000000 in
set_option maxHeartbeats 4000000 in
theorem refQuote_c (s : ByteArray) (hs : s.size ≤ 1000000) (w : World) : Calls Tryd.prog 17 #[.string s] w (QuoQ w s.data.toList) := by
  have HA : Hid (RqR w s ([34] ++ s.data.toList.flatMap quo1) (.slice (some ⟨w.heap.size, 0, none⟩) 1 1) (.int .i64 0) (w.alloc (Obj.cells #[.int .u8 34] 5))) := Lib.hid
    ⟨0, [34], rfl, Nat.zero_le _, (Below.refl w.heap.size w).alloc (Nat.le_refl _) _, own_lit w w.heap.size 5 .u8 [34] (Nat.le_refl _) (by simp), by simp, by rw [List.drop_zero]⟩
  go_enter Tryd.func17, Tryd.ntmps17
  go_wp2
  go_loopw [4, 5] (RqR w s ([34] ++ s.data.toList.flatMap quo1)) (fun _ v5 wr => s.size - numOf v5)
  case atStart => exact HA.out
  case round =>
    obtain ⟨n, out, rfl, hn, hb, ho, hol, hc⟩ := hrel
    have HB := Lib.hid hb
    have HO := Lib.hid ho
    clear hb ho HA
    by_cases hlt : n < s.size
    · have hi1 : (n : Int) < (s.size : Int) := by omega
      have hi2 : (0 : Int) ≤ (n : Int) := by omega
      have hx := UInt8.toNat_lt s[n]
      have hdr := drop_at s n hlt
      rw [hdr, List.flatMap_cons] at hc
      have HC := Lib.hid hc
      clear hc hdr
      have u32 : ∀ c : UInt8, c < 32 ↔ c.toNat < 32 := fun c => UInt8.lt_iff_toNat_lt
      have u126 : ∀ c : UInt8, 126 < c ↔ 126 < c.toNat := fun c => UInt8.lt_iff_toNat_lt
      by_cases h1 : s[n] < 32
      · have hb1 : (s[n].toNat : Int) < 32 := by have := (u32 _).1 h1; omega
        obtain ⟨q, hq⟩ : ∃ q, q = s[n].toNat / 16 := ⟨_, rfl⟩
        obtain ⟨r, hr⟩ : ∃ r, r = s[n].toNat % 16 := ⟨_, rfl⟩
        have hq16 : q < 16 := by omega
        have hr16 : r < 16 := by omega
        have hqq : quo1 s[n] = [92, hexc q, hexc r] := by unfold quo1; rw [if_pos (.inl h1), hq, hr]
        have hdiv0 : (s[n].toNat : Int).tdiv 16 = (q : Int) := by rw [hq, Int.tdiv_eq_ediv_of_nonneg (by omega)]; omega
        have hand0 : (s[n].toNat : Int).tmod 16 = (r : Int) := by rw [hr, Int.tmod_eq_emod_of_nonneg (by omega)]; omega
        have hdiv1 : IntKind.u8.wrap (q : Int) = (q : Int) := by rw [IntKind.wrap_u8]; omega
        have hand1 : IntKind.u8.wrap (r : Int) = (r : Int) := by rw [IntKind.wrap_u8]; omega
        have hdiv : (s[n].toNat : Int) / 16 = (q : Int) := by rw [hq]; omega
        have hand : (s[n].toNat : Int) % 16 = (r : Int) := by rw [hr]; omega
        have hq1 : ((q : Int) < 16) = True := eq_true (by omega)
        have hr1 : ((r : Int) < 16) = True := eq_true (by omega)
        have hdig := dig_at
        clear hq hr h1 u32 u126
        obtain ⟨W1, hW1⟩ : ∃ W1, W1 = wr.drew := ⟨_, rfl⟩
        have hbw : Below wr.heap.size wr W1 := by rw [hW1]; exact below_drew (Below.refl _ _)
        obtain ⟨v1, W2, hrun, ho2, hg2, hat⟩ := append_b W1 w.heap.size u4 out [92, hexc q, hexc r] (Nat.le_trans HB.out.size hbw.size) (by simp; omega) (pw_own_below HO.out hbw)
        have HRUN := Lib.hid hrun
        have HR1 : Hid (RqR w s ([34] ++ s.data.toList.flatMap quo1) v1 (.int .i64 ((n : Int) + 1)) W2) := Lib.hid ⟨n + 1, out ++ [92, hexc q, hexc r], by push_cast; rfl, by omega, (below_step HB.out hbw).grown hg2 (Nat.le_trans HB.out.size hbw.size) (own_base HO.out), ho2, by simp; omega, by
          have := HC.out
          rw [hqq] at this
          simpa using this⟩
        clear hrun ho2 hg2 hat hqq
        go_upto_block 9 with fail
        refine start_ (n := 12) (ds := []) (S := fun _ => True) #[false, false, false, false, false, false, false, false, false, false, false, false] (by kernel_rfl) rfl rfl trivial ?_
        intro hHeld
        rw [← hW1]
        clear hW1
        refine pure_ (i := 0) (N := (some 35)) (v := ?_) (a' := ?_) #[true, false, false, false, false, false, false, false, false, false, false, false] rfl rfl (by kernel_rfl) (fun _ _ _ h => h) (Or.inl ⟨by rfl, ?_⟩) ?_ ?_
        rotate_left
        · intro w'
          go_simp
          with_reducible rfl
        rotate_left
        · simp only [Act.put, List.setIfInBounds_toArray, List.set_cons_zero, List.set_cons_succ, i64_w, i32_w]
          rfl
        refine pure_ (i := 1) (N := (some 36)) (v := ?_) (a' := ?_) #[true, true, false, false, false, false, false, false, false, false, false, false] rfl rfl (by kernel_rfl) (fun _ _ _ h => h) (Or.inl ⟨by rfl, ?_⟩) ?_ ?_
        rotate_left
        · intro w'
          go_simp
          with_reducible rfl
        rotate_left
        · simp only [Act.put, List.setIfInBounds_toArray, List.set_cons_zero, List.set_cons_succ, i64_w, i32_w]
          rfl
        refine pure_ (i := 2) (N := (some 37)) (v := ?_) (a' := ?_) #[true, true, true, false, false, false, false, false, false, false, false, false] rfl rfl (by kernel_rfl) (fun _ _ _ h => h) (Or.inl ⟨by rfl, ?_⟩) ?_ ?_
        rotate_left
        · intro w'
          go_simp
          with_reducible rfl
        rotate_left
        · simp only [Act.put, List.setIfInBounds_toArray, List.set_cons_zero, List.set_cons_succ, i64_w, i32_w]
          rfl
        refine pure_ (i := 3) (N := (some 38)) (v := ?_) (a' := ?_) #[true, true, true, true, false, false, false, false, false, false, false, false] rfl rfl (by kernel_rfl) (fun _ _ _ h => h) (Or.inl ⟨by rfl, ?_⟩) ?_ ?_
        rotate_left
        · intro w'
          go_simp
          with_reducible rfl
        rotate_left
        · simp only [Act.put, List.setIfInBounds_toArray, List.set_cons_zero, List.set_cons_succ, i64_w, i32_w]
          rfl
        refine pure_ (i := 4) (N := (some 39)) (v := ?_) (a' := ?_) #[true, true, true, true, true, false, false, false, false, false, false, false] rfl rfl (by kernel_rfl) (fun _ _ _ h => h) (Or.inl ⟨by rfl, ?_⟩) ?_ ?_
        rotate_left
        · intro w'
          go_simp
          with_reducible rfl
        rotate_left
        · simp only [Act.put, List.setIfInBounds_toArray, List.set_cons_zero, List.set_cons_succ, i64_w, i32_w]
          rfl
        refine pure_ (i := 5) (N := (some 40)) (v := ?_) (a' := ?_) #[true, true, true, true, true, true, false, false, false, false, false, false] rfl rfl (by kernel_rfl) (fun _ _ _ h => h) (Or.inl ⟨by rfl, ?_⟩) ?_ ?_
        rotate_left
        · intro w'
          go_simp
          with_reducible rfl
        rotate_left
        · simp only [Act.put, List.setIfInBounds_toArray, List.set_cons_zero, List.set_cons_succ, i64_w, i32_w]
          rfl
        refine pure_ (i := 6) (N := (some 41)) (v := ?_) (a' := ?_) #[true, true, true, true, true, true, true, false, false, false, false, false] rfl rfl (by kernel_rfl) (fun _ _ _ h => h) (Or.inl ⟨by rfl, ?_⟩) ?_ ?_
        rotate_left
        · intro w'
          go_simp
          with_reducible rfl
        rotate_left
        · simp only [Act.put, List.setIfInBounds_toArray, List.set_cons_zero, List.set_cons_succ, i64_w, i32_w]
          rfl
        refine pure_ (i := 7) (N := (some 42)) (v := ?_) (a' := ?_) #[true, true, true, true, true, true, true, true, false, false, false, false] rfl rfl (by kernel_rfl) (fun _ _ _ h => h) (Or.inl ⟨by rfl, ?_⟩) ?_ ?_
        rotate_left
        · intro w'
          go_simp
          with_reducible rfl
        rotate_left
        · simp only [Act.put, List.setIfInBounds_toArray, List.set_cons_zero, List.set_cons_succ, i64_w, i32_w]
          rfl
        refine pure_ (i := 8) (N := (some 43)) (v := ?_) (a' := ?_) #[true, true, true, true, true, true, true, true, true, false, false, false] rfl rfl (by kernel_rfl) (fun _ _ _ h => h) (Or.inl ⟨by rfl, ?_⟩) ?_ ?_
        rotate_left
        · intro w'
          go_simp
          with_reducible rfl
        rotate_left
        · simp only [Act.put, List.setIfInBounds_toArray, List.set_cons_zero, List.set_cons_succ, i64_w, i32_w]
          rfl
        refine one_ (i := 9) (N := some 44) #[true, true, true, true, true, true, true, true, true, true, false, false] rfl rfl (by kernel_rfl) (by decide) (fun K hK => ?_)
        refine value_ (w1 := ?_) (v := ?_) (by rfl) rfl ?_ ?_
        rotate_left 2
        · go_simp
          constructor
          · rfl
          · rfl
        refine hK.out _ _ trivial (fun hHeld => ?_)
        clear hK K
        refine norm_ (a' := ?_) ?_ ?_
        rotate_left
        · show Act.put _ (some 44) _ = _
          simp only [Act.put, List.setIfInBounds_toArray, List.set_cons_zero, List.set_cons_succ, i64_w, i32_w]
          rfl
        refine one_ (i := 10) (N := some 45) #[true, true, true, true, true, true, true, true, true, true, true, false] rfl rfl (by kernel_rfl) (by decide) (fun K hK => ?_)
        refine rstep_append (by rfl) (.tmp 35) (.tmp 44) 63 63 rfl u4 (.slice (some ⟨W1.heap.size, 0, none⟩) 3 3) v1 W2 (by rfl) (by rfl) HRUN.out ?_
        refine hK.out _ _ trivial (fun hHeld => ?_)
        clear hK K
        refine norm_ (a' := ?_) ?_ ?_
        rotate_left
        · show Act.put _ (some 45) _ = _
          simp only [Act.put, List.setIfInBounds_toArray, List.set_cons_zero, List.set_cons_succ, i64_w, i32_w]
          rfl
        refine pure_ (i := 11) (N := (some 4)) (v := ?_) (a' := ?_) #[true, true, true, true, true, true, true, true, true, true, true, true] rfl rfl (by kernel_rfl) (fun _ _ _ h => h) (Or.inl ⟨by rfl, ?_⟩) ?_ ?_
        rotate_left
        · intro w'
          go_simp
          with_reducible rfl
        rotate_left
        · simp only [Act.put, List.setIfInBounds_toArray, List.set_cons_zero, List.set_cons_succ, i64_w, i32_w]
          rfl
        refine done_ (by kernel_rfl) ?_
        clear hdig hdiv hand hdiv0 hand0 hdiv1 hand1 hq1 hr1 hHeld
        go_wp2
        go_roundw
        case rel => exact HR1.out
        case measure => simp only [numOf]; omega
      · have hb1 : 32 ≤ (s[n].toNat : Int) := by have := mt (u32 _).2 h1; omega
        by_cases h2 : 126 < s[n]
        · have hb2 : 126 < (s[n].toNat : Int) := by have := (u126 _).1 h2; omega
          obtain ⟨q, hq⟩ : ∃ q, q = s[n].toNat / 16 := ⟨_, rfl⟩
          obtain ⟨r, hr⟩ : ∃ r, r = s[n].toNat % 16 := ⟨_, rfl⟩
          have hq16 : q < 16 := by omega
          have hr16 : r < 16 := by omega
          have hqq : quo1 s[n] = [92, hexc q, hexc r] := by unfold quo1; rw [if_pos (.inr (.inl h2)), hq, hr]
          have hdiv0 : (s[n].toNat : Int).tdiv 16 = (q : Int) := by rw [hq, Int.tdiv_eq_ediv_of_nonneg (by omega)]; omega
          have hand0 : (s[n].toNat : Int).tmod 16 = (r : Int) := by rw [hr, Int.tmod_eq_emod_of_nonneg (by omega)]; omega
          have hdiv1 : IntKind.u8.wrap (q : Int) = (q : Int) := by rw [IntKind.wrap_u8]; omega
          have hand1 : IntKind.u8.wrap (r : Int) = (r : Int) := by rw [IntKind.wrap_u8]; omega
          have hdiv : (s[n].toNat : Int) / 16 = (q : Int) := by rw [hq]; omega
          have hand : (s[n].toNat : Int) % 16 = (r : Int) := by rw [hr]; omega
          have hq1 : ((q : Int) < 16) = True := eq_true (by omega)
          have hr1 : ((r : Int) < 16) = True := eq_true (by omega)
          have hdig := dig_at
          clear hq hr h1 h2 u32 u126
          obtain ⟨W1, hW1⟩ : ∃ W1, W1 = wr.drew := ⟨_, rfl⟩
          have hbw : Below wr.heap.size wr W1 := by rw [hW1]; exact below_drew (Below.refl _ _)
          obtain ⟨v1, W2, hrun, ho2, hg2, hat⟩ := append_b W1 w.heap.size u4 out [92, hexc q, hexc r] (Nat.le_trans HB.out.size hbw.size) (by simp; omega) (pw_own_below HO.out hbw)
          have HRUN := Lib.hid hrun
          have HR1 : Hid (RqR w s ([34] ++ s.data.toList.flatMap quo1) v1 (.int .i64 ((n : Int) + 1)) W2) := Lib.hid ⟨n + 1, out ++ [92, hexc q, hexc r], by push_cast; rfl, by omega, (below_step HB.out hbw).grown hg2 (Nat.le_trans HB.out.size hbw.size) (own_base HO.out), ho2, by simp; omega, by
            have := HC.out
            rw [hqq] at this
            simpa using this⟩
          clear hrun ho2 hg2 hat hqq
          go_upto_block 9 with fail
          refine start_ (n := 12) (ds := []) (S := fun _ => True) #[false, false, false, false, false, false, false, false, false, false, false, false] (by kernel_rfl) rfl rfl trivial ?_
          intro hHeld
          rw [← hW1]
          clear hW1
          refine pure_ (i := 0) (N := (some 35)) (v := ?_) (a' := ?_) #[true, false, false, false, false, false, false, false, false, false, false, false] rfl rfl (by kernel_rfl) (fun _ _ _ h => h) (Or.inl ⟨by rfl, ?_⟩) ?_ ?_
          rotate_left
          · intro w'
            go_simp
            with_reducible rfl
          rotate_left
          · simp only [Act.put, List.setIfInBounds_toArray, List.set_cons_zero, List.set_cons_succ, i64_w, i32_w]
            rfl
          refine pure_ (i := 1) (N := (some 36)) (v := ?_) (a' := ?_) #[true, true, false, false, false, false, false, false, false, false, false, false] rfl rfl (by kernel_rfl) (fun _ _ _ h => h) (Or.inl ⟨by rfl, ?_⟩) ?_ ?_
          rotate_left
          · intro w'
            go_simp
            with_reducible rfl
          rotate_left
          · simp only [Act.put, List.setIfInBounds_toArray, List.set_cons_zero, List.set_cons_succ, i64_w, i32_w]
            rfl
          refine pure_ (i := 2) (N := (some 37)) (v := ?_) (a' := ?_) #[true, true, true, false, false, false, false, false, false, false, false, false] rfl rfl (by kernel_rfl) (fun _ _ _ h => h) (Or.inl ⟨by rfl, ?_⟩) ?_ ?_
          rotate_left
          · intro w'
            go_simp
            with_reducible rfl
          rotate_left
          · simp only [Act.put, List.setIfInBounds_toArray, List.set_cons_zero, List.set_cons_succ, i64_w, i32_w]
            rfl
          refine pure_ (i := 3) (N := (some 38)) (v := ?_) (a' := ?_) #[true, true, true, true, false, false, false, false, false, false, false, false] rfl rfl (by kernel_rfl) (fun _ _ _ h => h) (Or.inl ⟨by rfl, ?_⟩) ?_ ?_
          rotate_left
          · intro w'
            go_simp
            with_reducible rfl
          rotate_left
          · simp only [Act.put, List.setIfInBounds_toArray, List.set_cons_zero, List.set_cons_succ, i64_w, i32_w]
            rfl
          refine pure_ (i := 4) (N := (some 39)) (v := ?_) (a' := ?_) #[true, true, true, true, true, false, false, false, false, false, false, false] rfl rfl (by kernel_rfl) (fun _ _ _ h => h) (Or.inl ⟨by rfl, ?_⟩) ?_ ?_
          rotate_left
          · intro w'
            go_simp
            with_reducible rfl
          rotate_left
          · simp only [Act.put, List.setIfInBounds_toArray, List.set_cons_zero, List.set_cons_succ, i64_w, i32_w]
            rfl
          refine pure_ (i := 5) (N := (some 40)) (v := ?_) (a' := ?_) #[true, true, true, true, true, true, false, false, false, false, false, false] rfl rfl (by kernel_rfl) (fun _ _ _ h => h) (Or.inl ⟨by rfl, ?_⟩) ?_ ?_
          rotate_left
          · intro w'
            go_simp
            with_reducible rfl
          rotate_left
          · simp only [Act.put, List.setIfInBounds_toArray, List.set_cons_zero, List.set_cons_succ, i64_w, i32_w]
            rfl
          refine pure_ (i := 6) (N := (some 41)) (v := ?_) (a' := ?_) #[true, true, true, true, true, true, true, false, false, false, false, false] rfl rfl (by kernel_rfl) (fun _ _ _ h => h) (Or.inl ⟨by rfl, ?_⟩) ?_ ?_
          rotate_left
          · intro w'
            go_simp
            with_reducible rfl
          rotate_left
          · simp only [Act.put, List.setIfInBounds_toArray, List.set_cons_zero, List.set_cons_succ, i64_w, i32_w]
            rfl
          refine pure_ (i := 7) (N := (some 42)) (v := ?_) (a' := ?_) #[true, true, true, true, true, true, true, true, false, false, false, false] rfl rfl (by kernel_rfl) (fun _ _ _ h => h) (Or.inl ⟨by rfl, ?_⟩) ?_ ?_
          rotate_left
          · intro w'
            go_simp
            with_reducible rfl
          rotate_left
          · simp only [Act.put, List.setIfInBounds_toArray, List.set_cons_zero, List.set_cons_succ, i64_w, i32_w]
            rfl
          refine pure_ (i := 8) (N := (some 43)) (v := ?_) (a' := ?_) #[true, true, true, true, true, true, true, true, true, false, false, false] rfl rfl (by kernel_rfl) (fun _ _ _ h => h) (Or.inl ⟨by rfl, ?_⟩) ?_ ?_
          rotate_left
          · intro w'
            go_simp
            with_reducible rfl
          rotate_left
          · simp only [Act.put, List.setIfInBounds_toArray, List.set_cons_zero, List.set_cons_succ, i64_w, i32_w]
            rfl
          refine one_ (i := 9) (N := some 44) #[true, true, true, true, true, true, true, true, true, true, false, false] rfl rfl (by kernel_rfl) (by decide) (fun K hK => ?_)
          refine value_ (w1 := ?_) (v := ?_) (by rfl) rfl ?_ ?_
          rotate_left 2
          · go_simp
            constructor
            · rfl
            · rfl
          refine hK.out _ _ trivial (fun hHeld => ?_)
          clear hK K
          refine norm_ (a' := ?_) ?_ ?_
          rotate_left
          · show Act.put _ (some 44) _ = _
            simp only [Act.put, List.setIfInBounds_toArray, List.set_cons_zero, List.set_cons_succ, i64_w, i32_w]
            rfl
          refine one_ (i := 10) (N := some 45) #[true, true, true, true, true, true, true, true, true, true, true, false] rfl rfl (by kernel_rfl) (by decide) (fun K hK => ?_)
          refine rstep_append (by rfl) (.tmp 35) (.tmp 44) 63 63 rfl u4 (.slice (some ⟨W1.heap.size, 0, none⟩) 3 3) v1 W2 (by rfl) (by rfl) HRUN.out ?_
          refine hK.out _ _ trivial (fun hHeld => ?_)
          clear hK K
          refine norm_ (a' := ?_) ?_ ?_
          rotate_left
          · show Act.put _ (some 45) _ = _
            simp only [Act.put, List.setIfInBounds_toArray, List.set_cons_zero, List.set_cons_succ, i64_w, i32_w]
            rfl
          refine pure_ (i := 11) (N := (some 4)) (v := ?_) (a' := ?_) #[true, true, true, true, true, true, true, true, true, true, true, true] rfl rfl (by kernel_rfl) (fun _ _ _ h => h) (Or.inl ⟨by rfl, ?_⟩) ?_ ?_
          rotate_left
          · intro w'
            go_simp
            with_reducible rfl
          rotate_left
          · simp only [Act.put, List.setIfInBounds_toArray, List.set_cons_zero, List.set_cons_succ, i64_w, i32_w]
            rfl
          refine done_ (by kernel_rfl) ?_
          clear hdig hdiv hand hdiv0 hand0 hdiv1 hand1 hq1 hr1 hHeld
          go_wp2
          go_roundw
          case rel => exact HR1.out
          case measure => simp only [numOf]; omega
        · have hb2 : (s[n].toNat : Int) ≤ 126 := by have := mt (u126 _).2 h2; omega
          by_cases h3 : s[n] = 34
          · have hb3 : ((s[n].toNat : Int) != 34) = false := by rw [h3]; decide
            obtain ⟨q, hq⟩ : ∃ q, q = s[n].toNat / 16 := ⟨_, rfl⟩
            obtain ⟨r, hr⟩ : ∃ r, r = s[n].toNat % 16 := ⟨_, rfl⟩
            have hq16 : q < 16 := by omega
            have hr16 : r < 16 := by omega
            have hqq : quo1 s[n] = [92, hexc q, hexc r] := by unfold quo1; rw [if_pos (.inr (.inr (.inl h3))), hq, hr]
            have hdiv0 : (s[n].toNat : Int).tdiv 16 = (q : Int) := by rw [hq, Int.tdiv_eq_ediv_of_nonneg (by omega)]; omega
            have hand0 : (s[n].toNat : Int).tmod 16 = (r : Int) := by rw [hr, Int.tmod_eq_emod_of_nonneg (by omega)]; omega
            have hdiv1 : IntKind.u8.wrap (q : Int) = (q : Int) := by rw [IntKind.wrap_u8]; omega
            have hand1 : IntKind.u8.wrap (r : Int) = (r : Int) := by rw [IntKind.wrap_u8]; omega
            have hdiv : (s[n].toNat : Int) / 16 = (q : Int) := by rw [hq]; omega
            have hand : (s[n].toNat : Int) % 16 = (r : Int) := by rw [hr]; omega
            have hq1 : ((q : Int) < 16) = True := eq_true (by omega)
            have hr1 : ((r : Int) < 16) = True := eq_true (by omega)
            have hdig := dig_at
            clear hq hr h1 h2 h3 u32 u126
            obtain ⟨W1, hW1⟩ : ∃ W1, W1 = wr.drew := ⟨_, rfl⟩
            have hbw : Below wr.heap.size wr W1 := by rw [hW1]; exact below_drew (Below.refl _ _)
            obtain ⟨v1, W2, hrun, ho2, hg2, hat⟩ := append_b W1 w.heap.size u4 out [92, hexc q, hexc r] (Nat.le_trans HB.out.size hbw.size) (by simp; omega) (pw_own_below HO.out hbw)
            have HRUN := Lib.hid hrun
            have HR1 : Hid (RqR w s ([34] ++ s.data.toList.flatMap quo1) v1 (.int .i64 ((n : Int) + 1)) W2) := Lib.hid ⟨n + 1, out ++ [92, hexc q, hexc r], by push_cast; rfl, by omega, (below_step HB.out hbw).grown hg2 (Nat.le_trans HB.out.size hbw.size) (own_base HO.out), ho2, by simp; omega, by
              have := HC.out
              rw [hqq] at this
              simpa using this⟩
            clear hrun ho2 hg2 hat hqq
            go_upto_block 9 with fail
            refine start_ (n := 12) (ds := []) (S := fun _ => True) #[false, false, false, false, false, false, false, false, false, false, false, false] (by kernel_rfl) rfl rfl trivial ?_
            intro hHeld
            rw [← hW1]
            clear hW1
            refine pure_ (i := 0) (N := (some 35)) (v := ?_) (a' := ?_) #[true, false, false, false, false, false, false, false, false, false, false, false] rfl rfl (by kernel_rfl) (fun _ _ _ h => h) (Or.inl ⟨by rfl, ?_⟩) ?_ ?_
            rotate_left
            · intro w'
              go_simp
              with_reducible rfl
            rotate_left
            · simp only [Act.put, List.setIfInBounds_toArray, List.set_cons_zero, List.set_cons_succ, i64_w, i32_w]
              rfl
            refine pure_ (i := 1) (N := (some 36)) (v := ?_) (a' := ?_) #[true, true, false, false, false, false, false, false, false, false, false, false] rfl rfl (by kernel_rfl) (fun _ _ _ h => h) (Or.inl ⟨by rfl, ?_⟩) ?_ ?_
            rotate_left
            · intro w'
              go_simp
              with_reducible rfl
            rotate_left
            · simp only [Act.put, List.setIfInBounds_toArray, List.set_cons_zero, List.set_cons_succ, i64_w, i32_w]
              rfl
            refine pure_ (i := 2) (N := (some 37)) (v := ?_) (a' := ?_) #[true, true, true, false, false, false, false, false, false, false, false, false] rfl rfl (by kernel_rfl) (fun _ _ _ h => h) (Or.inl ⟨by rfl, ?_⟩) ?_ ?_
            rotate_left
            · intro w'
              go_simp
              with_reducible rfl
            rotate_left
            · simp only [Act.put, List.setIfInBounds_toArray, List.set_cons_zero, List.set_cons_succ, i64_w, i32_w]
              rfl
            refine pure_ (i := 3) (N := (some 38)) (v := ?_) (a' := ?_) #[true, true, true, true, false, false, false, false, false, false, false, false] rfl rfl (by kernel_rfl) (fun _ _ _ h => h) (Or.inl ⟨by rfl, ?_⟩) ?_ ?_
            rotate_left
            · intro w'
              go_simp
              with_reducible rfl
            rotate_left
            · simp only [Act.put, List.setIfInBounds_toArray, List.set_cons_zero, List.set_cons_succ, i64_w, i32_w]
              rfl
            refine pure_ (i := 4) (N := (some 39)) (v := ?_) (a' := ?_) #[true, true, true, true, true, false, false, false, false, false, false, false] rfl rfl (by kernel_rfl) (fun _ _ _ h => h) (Or.inl ⟨by rfl, ?_⟩) ?_ ?_
            rotate_left
            · intro w'
              go_simp
              with_reducible rfl
            rotate_left
            · simp only [Act.put, List.setIfInBounds_toArray, List.set_cons_zero, List.set_cons_succ, i64_w, i32_w]
              rfl
            refine pure_ (i := 5) (N := (some 40)) (v := ?_) (a' := ?_) #[true, true, true, true, true, true, false, false, false, false, false, false] rfl rfl (by kernel_rfl) (fun _ _ _ h => h) (Or.inl ⟨by rfl, ?_⟩) ?_ ?_
            rotate_left
            · intro w'
              go_simp
              with_reducible rfl
            rotate_left
            · simp only [Act.put, List.setIfInBounds_toArray, List.set_cons_zero, List.set_cons_succ, i64_w, i32_w]
              rfl
            refine pure_ (i := 6) (N := (some 41)) (v := ?_) (a' := ?_) #[true, true, true, true, true, true, true, false, false, false, false, false] rfl rfl (by kernel_rfl) (fun _ _ _ h => h) (Or.inl ⟨by rfl, ?_⟩) ?_ ?_
            rotate_left
            · intro w'
              go_simp
              with_reducible rfl
            rotate_left
            · simp only [Act.put, List.setIfInBounds_toArray, List.set_cons_zero, List.set_cons_succ, i64_w, i32_w]
              rfl
            refine pure_ (i := 7) (N := (some 42)) (v := ?_) (a' := ?_) #[true, true, true, true, true, true, true, true, false, false, false, false] rfl rfl (by kernel_rfl) (fun _ _ _ h => h) (Or.inl ⟨by rfl, ?_⟩) ?_ ?_
            rotate_left
            · intro w'
              go_simp
              with_reducible rfl
            rotate_left
            · simp only [Act.put, List.setIfInBounds_toArray, List.set_cons_zero, List.set_cons_succ, i64_w, i32_w]
              rfl
            refine pure_ (i := 8) (N := (some 43)) (v := ?_) (a' := ?_) #[true, true, true, true, true, true, true, true, true, false, false, false] rfl rfl (by kernel_rfl) (fun _ _ _ h => h) (Or.inl ⟨by rfl, ?_⟩) ?_ ?_
            rotate_left
            · intro w'
              go_simp
              with_reducible rfl
            rotate_left
            · simp only [Act.put, List.setIfInBounds_toArray, List.set_cons_zero, List.set_cons_succ, i64_w, i32_w]
              rfl
            refine one_ (i := 9) (N := some 44) #[true, true, true, true, true, true, true, true, true, true, false, false] rfl rfl (by kernel_rfl) (by decide) (fun K hK => ?_)
            refine value_ (w1 := ?_) (v := ?_) (by rfl) rfl ?_ ?_
            rotate_left 2
            · go_simp
              constructor
              · rfl
              · rfl
            refine hK.out _ _ trivial (fun hHeld => ?_)
            clear hK K
            refine norm_ (a' := ?_) ?_ ?_
            rotate_left
            · show Act.put _ (some 44) _ = _
              simp only [Act.put, List.setIfInBounds_toArray, List.set_cons_zero, List.set_cons_succ, i64_w, i32_w]
              rfl
            refine one_ (i := 10) (N := some 45) #[true, true, true, true, true, true, true, true, true, true, true, false] rfl rfl (by kernel_rfl) (by decide) (fun K hK => ?_)
            refine rstep_append (by rfl) (.tmp 35) (.tmp 44) 63 63 rfl u4 (.slice (some ⟨W1.heap.size, 0, none⟩) 3 3) v1 W2 (by rfl) (by rfl) HRUN.out ?_
            refine hK.out _ _ trivial (fun hHeld => ?_)
            clear hK K
            refine norm_ (a' := ?_) ?_ ?_
            rotate_left
            · show Act.put _ (some 45) _ = _
              simp only [Act.put, List.setIfInBounds_toArray, List.set_cons_zero, List.set_cons_succ, i64_w, i32_w]
              rfl
            refine pure_ (i := 11) (N := (some 4)) (v := ?_) (a' := ?_) #[true, true, true, true, true, true, true, true, true, true, true, true] rfl rfl (by kernel_rfl) (fun _ _ _ h => h) (Or.inl ⟨by rfl, ?_⟩) ?_ ?_
            rotate_left
            · intro w'
              go_simp
              with_reducible rfl
            rotate_left
            · simp only [Act.put, List.setIfInBounds_toArray, List.set_cons_zero, List.set_cons_succ, i64_w, i32_w]
              rfl
            refine done_ (by kernel_rfl) ?_
            clear hdig hdiv hand hdiv0 hand0 hdiv1 hand1 hq1 hr1 hHeld
            go_wp2
            go_roundw
            case rel => exact HR1.out
            case measure => simp only [numOf]; omega
          · have hb3 : ((s[n].toNat : Int) != 34) = true := by
              simp only [bne_iff_ne, ne_eq]
              intro h
              exact h3 (UInt8.toNat_inj.1 (by have e : (34 : UInt8).toNat = 34 := rfl; omega))
            by_cases h4 : s[n] = 92
            · have hb4 : ((s[n].toNat : Int) != 92) = false := by rw [h4]; decide
              obtain ⟨q, hq⟩ : ∃ q, q = s[n].toNat / 16 := ⟨_, rfl⟩
              obtain ⟨r, hr⟩ : ∃ r, r = s[n].toNat % 16 := ⟨_, rfl⟩
              have hq16 : q < 16 := by omega
              have hr16 : r < 16 := by omega
              have hqq : quo1 s[n] = [92, hexc q, hexc r] := by unfold quo1; rw [if_pos (.inr (.inr (.inr h4))), hq, hr]
              have hdiv0 : (s[n].toNat : Int).tdiv 16 = (q : Int) := by rw [hq, Int.tdiv_eq_ediv_of_nonneg (by omega)]; omega
              have hand0 : (s[n].toNat : Int).tmod 16 = (r : Int) := by rw [hr, Int.tmod_eq_emod_of_nonneg (by omega)]; omega
              have hdiv1 : IntKind.u8.wrap (q : Int) = (q : Int) := by rw [IntKind.wrap_u8]; omega
              have hand1 : IntKind.u8.wrap (r : Int) = (r : Int) := by rw [IntKind.wrap_u8]; omega
              have hdiv : (s[n].toNat : Int) / 16 = (q : Int) := by rw [hq]; omega
              have hand : (s[n].toNat : Int) % 16 = (r : Int) := by rw [hr]; omega
              have hq1 : ((q : Int) < 16) = True := eq_true (by omega)
              have hr1 : ((r : Int) < 16) = True := eq_true (by omega)
              have hdig := dig_at
              clear hq hr h1 h2 h3 h4 u32 u126
              obtain ⟨W1, hW1⟩ : ∃ W1, W1 = wr.drew := ⟨_, rfl⟩
              have hbw : Below wr.heap.size wr W1 := by rw [hW1]; exact below_drew (Below.refl _ _)
              obtain ⟨v1, W2, hrun, ho2, hg2, hat⟩ := append_b W1 w.heap.size u4 out [92, hexc q, hexc r] (Nat.le_trans HB.out.size hbw.size) (by simp; omega) (pw_own_below HO.out hbw)
              have HRUN := Lib.hid hrun
              have HR1 : Hid (RqR w s ([34] ++ s.data.toList.flatMap quo1) v1 (.int .i64 ((n : Int) + 1)) W2) := Lib.hid ⟨n + 1, out ++ [92, hexc q, hexc r], by push_cast; rfl, by omega, (below_step HB.out hbw).grown hg2 (Nat.le_trans HB.out.size hbw.size) (own_base HO.out), ho2, by simp; omega, by
                have := HC.out
                rw [hqq] at this
                simpa using this⟩
              clear hrun ho2 hg2 hat hqq
              go_upto_block 9 with fail
              refine start_ (n := 12) (ds := []) (S := fun _ => True) #[false, false, false, false, false, false, false, false, false, false, false, false] (by kernel_rfl) rfl rfl trivial ?_
              intro hHeld
              rw [← hW1]
              clear hW1
              refine pure_ (i := 0) (N := (some 35)) (v := ?_) (a' := ?_) #[true, false, false, false, false, false, false, false, false, false, false, false] rfl rfl (by kernel_rfl) (fun _ _ _ h => h) (Or.inl ⟨by rfl, ?_⟩) ?_ ?_
              rotate_left
              · intro w'
                go_simp
                with_reducible rfl
              rotate_left
              · simp only [Act.put, List.setIfInBounds_toArray, List.set_cons_zero, List.set_cons_succ, i64_w, i32_w]
                rfl
              refine pure_ (i := 1) (N := (some 36)) (v := ?_) (a' := ?_) #[true, true, false, false, false, false, false, false, false, false, false, false] rfl rfl (by kernel_rfl) (fun _ _ _ h => h) (Or.inl ⟨by rfl, ?_⟩) ?_ ?_
              rotate_left
              · intro w'
                go_simp
                with_reducible rfl
              rotate_left
              · simp only [Act.put, List.setIfInBounds_toArray, List.set_cons_zero, List.set_cons_succ, i64_w, i32_w]
                rfl
              refine pure_ (i := 2) (N := (some 37)) (v := ?_) (a' := ?_) #[true, true, true, false, false, false, false, false, false, false, false, false] rfl rfl (by kernel_rfl) (fun _ _ _ h => h) (Or.inl ⟨by rfl, ?_⟩) ?_ ?_
              rotate_left
              · intro w'
                go_simp
                with_reducible rfl
              rotate_left
              · simp only [Act.put, List.setIfInBounds_toArray, List.set_cons_zero, List.set_cons_succ, i64_w, i32_w]
                rfl
              refine pure_ (i := 3) (N := (some 38)) (v := ?_) (a' := ?_) #[true, true, true, true, false, false, false, false, false, false, false, false] rfl rfl (by kernel_rfl) (fun _ _ _ h => h) (Or.inl ⟨by rfl, ?_⟩) ?_ ?_
              rotate_left
              · intro w'
                go_simp
                with_reducible rfl
              rotate_left
              · simp only [Act.put, List.setIfInBounds_toArray, List.set_cons_zero, List.set_cons_succ, i64_w, i32_w]
                rfl
              refine pure_ (i := 4) (N := (some 39)) (v := ?_) (a' := ?_) #[true, true, true, true, true, false, false, false, false, false, false, false] rfl rfl (by kernel_rfl) (fun _ _ _ h => h) (Or.inl ⟨by rfl, ?_⟩) ?_ ?_
              rotate_left
              · intro w'
                go_simp
                with_reducible rfl
              rotate_left
              · simp only [Act.put, List.setIfInBounds_toArray, List.set_cons_zero, List.set_cons_succ, i64_w, i32_w]
                rfl
              refine pure_ (i := 5) (N := (some 40)) (v := ?_) (a' := ?_) #[true, true, true, true, true, true, false, false, false, false, false, false] rfl rfl (by kernel_rfl) (fun _ _ _ h => h) (Or.inl ⟨by rfl, ?_⟩) ?_ ?_
              rotate_left
              · intro w'
                go_simp
                with_reducible rfl
              rotate_left
              · simp only [Act.put, List.setIfInBounds_toArray, List.set_cons_zero, List.set_cons_succ, i64_w, i32_w]
                rfl
              refine pure_ (i := 6) (N := (some 41)) (v := ?_) (a' := ?_) #[true, true, true, true, true, true, true, false, false, false, false, false] rfl rfl (by kernel_rfl) (fun _ _ _ h => h) (Or.inl ⟨by rfl, ?_⟩) ?_ ?_
              rotate_left
              · intro w'
                go_simp
                with_reducible rfl
              rotate_left
              · simp only [Act.put, List.setIfInBounds_toArray, List.set_cons_zero, List.set_cons_succ, i64_w, i32_w]
                rfl
              refine pure_ (i := 7) (N := (some 42)) (v := ?_) (a' := ?_) #[true, true, true, true, true, true, true, true, false, false, false, false] rfl rfl (by kernel_rfl) (fun _ _ _ h => h) (Or.inl ⟨by rfl, ?_⟩) ?_ ?_
              rotate_left
              · intro w'
                go_simp
                with_reducible rfl
              rotate_left
              · simp only [Act.put, List.setIfInBounds_toArray, List.set_cons_zero, List.set_cons_succ, i64_w, i32_w]
                rfl
              refine pure_ (i := 8) (N := (some 43)) (v := ?_) (a' := ?_) #[true, true, true, true, true, true, true, true, true, false, false, false] rfl rfl (by kernel_rfl) (fun _ _ _ h => h) (Or.inl ⟨by rfl, ?_⟩) ?_ ?_
              rotate_left
              · intro w'
                go_simp
                with_reducible rfl
              rotate_left
              · simp only [Act.put, List.setIfInBounds_toArray, List.set_cons_zero, List.set_cons_succ, i64_w, i32_w]
                rfl
              refine one_ (i := 9) (N := some 44) #[true, true, true, true, true, true, true, true, true, true, false, false] rfl rfl (by kernel_rfl) (by decide) (fun K hK => ?_)
              refine value_ (w1 := ?_) (v := ?_) (by rfl) rfl ?_ ?_
              rotate_left 2
              · go_simp
                constructor
                · rfl
                · rfl
              refine hK.out _ _ trivial (fun hHeld => ?_)
              clear hK K
              refine norm_ (a' := ?_) ?_ ?_
              rotate_left
              · show Act.put _ (some 44) _ = _
                simp only [Act.put, List.setIfInBounds_toArray, List.set_cons_zero, List.set_cons_succ, i64_w, i32_w]
                rfl
              refine one_ (i := 10) (N := some 45) #[true, true, true, true, true, true, true, true, true, true, true, false] rfl rfl (by kernel_rfl) (by decide) (fun K hK => ?_)
              refine rstep_append (by rfl) (.tmp 35) (.tmp 44) 63 63 rfl u4 (.slice (some ⟨W1.heap.size, 0, none⟩) 3 3) v1 W2 (by rfl) (by rfl) HRUN.out ?_
              refine hK.out _ _ trivial (fun hHeld => ?_)
              clear hK K
              refine norm_ (a' := ?_) ?_ ?_
              rotate_left
              · show Act.put _ (some 45) _ = _
                simp only [Act.put, List.setIfInBounds_toArray, List.set_cons_zero, List.set_cons_succ, i64_w, i32_w]
                rfl
              refine pure_ (i := 11) (N := (some 4)) (v := ?_) (a' := ?_) #[true, true, true, true, true, true, true, true, true, true, true, true] rfl rfl (by kernel_rfl) (fun _ _ _ h => h) (Or.inl ⟨by rfl, ?_⟩) ?_ ?_
              rotate_left
              · intro w'
                go_simp
                with_reducible rfl
              rotate_left
              · simp only [Act.put, List.setIfInBounds_toArray, List.set_cons_zero, List.set_cons_succ, i64_w, i32_w]
                rfl
              refine done_ (by kernel_rfl) ?_
              clear hdig hdiv hand hdiv0 hand0 hdiv1 hand1 hq1 hr1 hHeld
              go_wp2
              go_roundw
              case rel => exact HR1.out
              case measure => simp only [numOf]; omega
            · have hb4 : ((s[n].toNat : Int) != 92) = true := by
                simp only [bne_iff_ne, ne_eq]
                intro h
                exact h4 (UInt8.toNat_inj.1 (by have e : (92 : UInt8).toNat = 92 := rfl; omega))
              have hqq : quo1 s[n] = [s[n]] := by
                unfold quo1
                rw [if_neg (fun h => by rcases h with h | h | h | h; exact h1 h; exact h2 h; exact h3 h; exact h4 h)]
              clear h1 h2 h3 h4 u32 u126
              obtain ⟨v1, W2, hrun, ho2, hg2, hat⟩ := append_b wr w.heap.size u4 out [s[n]] HB.out.size (by simp; omega) HO.out
              have HRUN := Lib.hid hrun
              have HR1 : Hid (RqR w s ([34] ++ s.data.toList.flatMap quo1) v1 (.int .i64 ((n : Int) + 1)) W2) := Lib.hid ⟨n + 1, out ++ [s[n]], by push_cast; rfl, by omega, HB.out.grown hg2 HB.out.size (own_base HO.out), ho2, by simp; omega, by
                have := HC.out
                rw [hqq] at this
                simpa using this⟩
              clear hrun ho2 hg2 hat hqq
              go_wp2_with (at_builtin; go_loud (refine step_append rfl (.tmp 31) (.tmp 33) 63 63 rfl u4 (.slice (some ⟨wr.heap.size, 0, none⟩) 1 1) v1 W2 (by first | (go_simp; done) | (go_simp; rfl) | rfl) (by first | (go_simp; done) | (go_simp; rfl) | rfl) HRUN.out ?_))
              go_roundw
              case rel => exact HR1.out
              case measure => simp only [numOf]; omega
    · have hfin : out = [34] ++ s.data.toList.flatMap quo1 := by
        rw [drop_end s n (by omega)] at hc
        simpa using hc
      obtain ⟨v1, W2, hrun, ho2, hg2, hat⟩ := append_b wr w.heap.size u4 out [34] HB.out.size (by simp; omega) HO.out
      have HRUN := Lib.hid hrun
      have HB2 := Lib.hid (HB.out.grown hg2 HB.out.size (own_base HO.out))
      have hcv : (convert 63 9 v1).run Tryd.prog W2 = .ok (.string ⟨(quo s.data.toList).toArray⟩) W2 := by
        have := own_string (P := Tryd.prog) (src := 63) (dst := 9) Tryd.underlying63 Tryd.underlying5 Tryd.underlying9 ho2
        rw [str_nb, hfin] at this
        exact this
      clear hrun ho2 hg2 hat hc hfin
      go_wp2_with (at_builtin; go_loud (refine step_append rfl (.tmp 46) (.tmp 47) 63 63 rfl u4 (.slice (some ⟨wr.heap.size, 0, none⟩) 1 1) v1 W2 (by first | (go_simp; done) | (go_simp; rfl) | rfl) (by first | (go_simp; done) | (go_simp; rfl) | rfl) HRUN.out ?_))
      go_ret
      exact ⟨rfl, HB2.out⟩
end Go.Proofs.YtjecdciabpjgcaaDoor.Lx
