/-
  The plain law of what one number comes to (IntsOne), on: the reference's answer. For numbers of 64 bits.
-/
import Derived.Test.YtajmjmnlapplaaaDoorOnA
namespace Go.Proofs.YtajmjmnlapplaaaDoor.Pure
set_option linter.unusedVariables false
set_option linter.unusedSimpArgs false
open Go.RowKit Go.Proofs.YtajmjmnlapplaaaDoor.PInts Go.Proofs.YtajmjmnlapplaaaDoor.PIno Go.Proofs.YtajmjmnlapplaaaDoorW.PrintWords Go.Proofs.YtajmjmnlapplaaaDoorW.PrintLast Go.Proofs.YtajmjmnlapplaaaDoorW.PrintMore

theorem rUn_sum (k : Nat) (hk : 200 ≤ k) (n op a : Int) (h : R n) (h1 : 1 ≤ op) (h2 : op ≤ 8) (hf : ¬ (4 ≤ op ∧ op ≤ 6 ∧ exW op ≥ n)) (a0 : 0 ≤ a) (a1 : a < 18446744073709551616) :
    bodkinref02_Un.j0 (k + 1) n op a false = some (unI n op (a % pw n)) := by
  have hn : 8 ≤ n ∧ n ≤ 64 := by unfold R at h; omega
  have ca := cut_bounds n a; have hp := pw_pos n
  have hpn := pw_nat n h
  simp only [bodkinref02_Un.j0, Bool.false_eq_true, if_false]
  rw [rCut k n a (by omega) h a0 a1]
  simp only [Option.bind_some]
  rw [rList k n _ (by omega) (by omega) (by omega) ca.1 (by omega)]
  simp only [Option.bind_some]
  obtain ⟨X, hX⟩ := Int.eq_ofNat_of_zero_le ca.1
  rw [hX] at ca ⊢
  obtain ⟨N, rfl⟩ := Int.eq_ofNat_of_zero_le (show 0 ≤ n by omega)
  rw [Int.toNat_natCast] at hpn ⊢
  have hXN : X < 2 ^ N := by omega
  have hlen := bl_length N (X : Int)
  have hX64 : X < 2 ^ 64 := Nat.lt_of_lt_of_le hXN (Nat.pow_le_pow_right (by decide) (by omega))
  by_cases o1 : op = 1
  · rw [if_pos o1, wr_i _ (by omega) (by omega), show (0 : Int) = ((0 : Nat) : Int) from rfl, l0_go _ N k 0 (by omega) (by omega) (by omega), lz_bl X N N (Nat.le_refl _) (by omega), Nat.mod_eq_of_lt hXN]
    have hl : Lib.bitLen X ≤ N := Lib.bitLen_le _ _ (by omega) hXN
    unfold unI
    rw [if_pos o1, Int.toNat_natCast]
    congr 2
    omega
  rw [if_neg o1]
  by_cases o2 : op = 2
  · rw [if_pos o2, show (0 : Int) = ((0 : Nat) : Int) from rfl, l1_go N _ hlen (by omega) N k 0 0 (by omega) (by omega) (by omega) (by omega), List.drop_zero, zs_bl N 64 X hX64]
    unfold unI
    rw [if_neg o1, if_pos o2, Int.toNat_natCast]
    unfold Lib.ctz
    congr 2
    split <;> omega
  rw [if_neg o2]
  by_cases o3 : op = 3
  · rw [if_pos o3, show ((0 : Int)) = ((0 : Nat) : Int) from rfl, l2_go N _ hlen (by omega) (bl_bits N _) N k 0 _ (by omega) (by omega) (by omega) (by omega) (by omega), List.drop_zero, su_bl N X]
    unfold unI
    rw [if_neg o1, if_neg o2, if_pos o3, Int.toNat_natCast, pc_all _ h X (by simpa using hXN), Int.toNat_natCast]
    simp
  rw [if_neg o3]
  obtain ⟨k, rfl⟩ : ∃ m, k = m + 1 := ⟨k - 1, by omega⟩
  by_cases o4 : 4 ≤ op ∧ op ≤ 6
  · have hR := exW_R op
    have hWn : exW op < N := by omega
    have hrd : rd [8, 16, 32] (wrap64 (op - 4)) = exW op := by
      have : op = 4 ∨ op = 5 ∨ op = 6 := by omega
      rcases this with rfl | rfl | rfl <;> decide +kernel
    have hj : bodkinref02_Un.j4 (k + 1) (N : Int) op (X : Int) (bl N (X : Int)) op true = some (unI N op (X : Int)) := by
      simp only [bodkinref02_Un.j4, if_true, Option.bind_some]
      rw [hrd, wr_i (op - 4) (by omega) (by omega), if_pos (by omega), if_pos (by simp; omega)]
      have hpe := pw_nat _ hR
      have hW8 : 8 ≤ exW op ∧ exW op ≤ 32 := by unfold exW; split <;> (try split) <;> omega
      obtain ⟨W, hW⟩ := Int.eq_ofNat_of_zero_le (show 0 ≤ exW op by omega)
      unfold unI
      rw [if_neg o1, if_neg o2, if_neg o3, if_neg (by omega), if_neg (by omega)]
      rw [hW] at hR hWn hpe hW8 ⊢
      rw [Int.toNat_natCast] at hpe
      rw [if_neg (by omega)]
      obtain ⟨b, hb⟩ : ∃ b, b = bitAt (X : Int) (W - 1) := ⟨_, rfl⟩
      have hbr := bitAt_range (X : Int) (W - 1)
      rw [← hb] at hbr
      have hext := ext_bits N W X (by omega) (by omega)
      rw [← hb] at hext
      refine l3_go N W b (bl W (X : Int)) (bl_length _ _) (by omega) (by rw [hb]; exact bl_get W _ _ (by omega)) (by omega) _ (N - W) k W (bl N (X : Int)) (by omega) rfl (by omega) (Nat.le_refl _) hlen ?_ (fun j hj => ?_) (by omega)
      · rw [Nat.sub_self, List.replicate_zero, List.append_nil]
        refine eq_bl W _ _ (by rw [List.length_take, hlen]; omega) (fun i hi => ?_)
        rw [List.getD_eq_getElem?_getD, List.getElem?_take, if_pos hi, ← List.getD_eq_getElem?_getD]
        exact bl_get N _ i (by omega)
      · rw [rOf j _ hj ?_ (by rw [List.length_append, bl_length, List.length_replicate]; omega), hext]
        · congr 1
          have eN : 2 ^ N = 2 * 2 ^ (W - 1) * 2 ^ (N - W) := by rw [← Nat.pow_succ', ← Nat.pow_add]; congr 1; omega
          have eW : 2 ^ W = 2 * 2 ^ (W - 1) := by rw [← Nat.pow_succ']; congr 1; omega
          have eWi : (2 : Int) ^ W = ((2 * 2 ^ (W - 1) : Nat) : Int) := by rw [← eW]; push_cast; rfl
          have hx := ext_nat X (2 ^ (W - 1)) (2 ^ (N - W)) (Nat.two_pow_pos _) (by
            have : 2 ^ 1 ≤ 2 ^ (N - W) := Nat.pow_le_pow_right (by decide) (by omega)
            omega)
          have hbb : b = (X : Int) / ((2 ^ (W - 1) : Nat) : Int) % 2 := by rw [hb]; unfold bitAt; push_cast; rfl
          have hQ : (2 : Int) ^ (N - W) = ((2 ^ (N - W) : Nat) : Int) := by push_cast; rfl
          have hh : pw (W : Int) / 2 = ((2 ^ (W - 1) : Nat) : Int) := by rw [hpe, eW]; omega
          unfold sg
          rw [hh, hpe, hpn, eW, eN, eWi, hbb, hQ]
          exact hx
        · intro x hx
          rcases List.mem_append.1 hx with hx | hx
          · exact bl_bits _ _ x hx
          · obtain rfl := (List.mem_replicate.1 hx).2
            exact hbr
    have : op = 4 ∨ op = 5 ∨ op = 6 := by omega
    rcases this with rfl | rfl | rfl
    · rw [if_pos rfl]; exact hj
    · rw [if_neg (by decide), if_pos rfl]; exact hj
    · rw [if_neg (by decide), if_neg (by decide)]; exact hj
  rw [if_neg (by omega), if_neg (by omega), show (op == 6) = false from beq_eq_false_iff_ne.2 (by omega)]
  simp only [bodkinref02_Un.j4, Bool.false_eq_true, if_false]
  have hcut : bodkinref02_Cut.f k (N : Int) (IntKind.u64.wrap (-(X : Int))) = some (-(X : Int) % pw N) := by
    have hu : 0 ≤ IntKind.u64.wrap (-(X : Int)) ∧ IntKind.u64.wrap (-(X : Int)) < 18446744073709551616 := by rw [IntKind.wrap_u64]; omega
    rw [rCut k _ _ (by omega) h hu.1 hu.2, IntKind.wrap_u64, big_cut _ _ h]
  by_cases o7 : op = 7
  · rw [if_pos o7, wr_i _ (by omega) (by omega), if_pos (by omega), if_pos (by omega)]
    have hb : rd (bl N (X : Int)) ((N : Int) - 1) = bitAt (X : Int) (N - 1) := by
      rw [show (N : Int) - 1 = ((N - 1 : Nat) : Int) by omega]
      exact bl_get N _ (N - 1) (by omega)
    have hp2 : pw (N : Int) / 2 = ((2 ^ (N - 1) : Nat) : Int) := by
      rw [hpn]
      have : 2 ^ N = 2 ^ (N - 1) * 2 := by rw [← Nat.pow_succ]; congr 1; omega
      rw [this]; omega
    have hN2 : 2 ^ N = 2 ^ (N - 1) * 2 := by rw [← Nat.pow_succ]; congr 1; omega
    have hbit : bitAt (X : Int) (N - 1) = ((X / 2 ^ (N - 1) : Nat) : Int) := by
      unfold bitAt
      have h2 : X / 2 ^ (N - 1) < 2 := Nat.div_lt_of_lt_mul (by omega)
      have : ((X : Int) / 2 ^ (N - 1) % 2) = ((X / 2 ^ (N - 1) % 2 : Nat) : Int) := by push_cast; rfl
      rw [this, Nat.mod_eq_of_lt h2]
    rw [hb, hbit]
    unfold unI
    rw [if_neg o1, if_neg o2, if_neg o3, if_pos o7]
    unfold sg
    rw [hp2]
    by_cases hs : X < 2 ^ (N - 1)
    · rw [Nat.div_eq_of_lt hs, if_pos (by rfl), if_pos (by omega)]
    · have : 1 ≤ X / 2 ^ (N - 1) := (Nat.le_div_iff_mul_le (Nat.two_pow_pos _)).2 (by omega)
      rw [if_neg (by omega), hcut]
      simp only [Option.bind_some]
      rw [if_neg (by omega)]
  · rw [if_neg o7, hcut]
    unfold unI
    rw [if_neg o1, if_neg o2, if_neg o3, if_neg o7, if_pos (by omega)]
    rfl
instance decR (n : Int) : Decidable (R n) := by unfold R; infer_instance
theorem rUn_all (n op a : Int) (a0 : 0 ≤ a) (a1 : a < 18446744073709551616) : bodkinref02_Un.f 300 n op a = some (if R n ∧ 1 ≤ op ∧ op ≤ 8 then unI n op (a % pw n) else (0, 1)) := by
  by_cases h : R n ∧ 1 ≤ op ∧ op ≤ 8
  · rw [if_pos h, rUn_in 300 n op a h.1 h.2.1 h.2.2]
    by_cases hf : 4 ≤ op ∧ op ≤ 6 ∧ exW op ≥ n
    · rw [decide_eq_true hf]
      simp only [bodkinref02_Un.j0, if_true]
      unfold unI
      rw [if_neg (by omega), if_neg (by omega), if_neg (by omega), if_neg (by omega), if_neg (by omega), if_pos hf.2.2]
    · rw [decide_eq_false hf]
      exact rUn_sum 299 (by omega) n op a h.1 h.2.1 h.2.2 hf a0 a1
  · rw [if_neg h]
    exact rUn_no 299 n op a h
/-- The program's answer, but for the count of trailing noughts. -/
theorem un_all (n op a : Int) (hop : op ≠ 2) (a0 : 0 ≤ a) (a1 : a < 18446744073709551616) : ints_Un.f 300 n op a = some (if R n ∧ 1 ≤ op ∧ op ≤ 8 then unI n op (a % pw n) else (0, 1)) := by
  by_cases h : R n ∧ 1 ≤ op ∧ op ≤ 8
  · rw [if_pos h]
    obtain ⟨hR, h1, h2⟩ := h
    have ca := cut_bounds n a; have hp := pw_pos n
    have : op = 1 ∨ op = 3 ∨ (4 ≤ op ∧ op ≤ 6) ∨ op = 7 ∨ op = 8 := by omega
    rcases this with o | o | o | o | o
    · rw [un_clz n a hR a0 a1 op o 299]; unfold unI; rw [if_pos o]
    · rw [un_pop n a hR a0 a1 op o 299 _ (pc_le 64 _) (ones_at _ ca.1 (by omega) _ rfl)]; unfold unI; rw [if_neg (by omega), if_neg (by omega), if_pos o]
    · have e : unI n op (a % pw n) = if exW op ≥ n then (0, 1) else (sg (exW op) (a % pw n % pw (exW op)) % pw n, 0) := by unfold unI; rw [if_neg (by omega), if_neg (by omega), if_neg (by omega), if_neg (by omega), if_neg (by omega)]
      rw [un_ext n a hR a0 a1 op o 299, e]
    · subst o; rw [un_abs 299 n a hR a0 a1]; rfl
    · subst o; rw [un_neg 299 n a hR a0 a1]; rfl
  · rw [if_neg h]
    exact un_no 299 n op a h
end Go.Proofs.YtajmjmnlapplaaaDoor.Pure
