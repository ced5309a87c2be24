/-
  The plain law of ints.Bin, on: quotients and rests, what is moved, what is held.
-/
import Derived.Test.YtajmjmnlapplaaaDoorPureC
namespace Go.Proofs.YtajmjmnlapplaaaDoor.Pure
set_option linter.unusedVariables false
set_option linter.unusedSimpArgs false
open Go.RowKit Go.Proofs.YtajmjmnlapplaaaDoor.PInts Go.Proofs.YtajmjmnlapplaaaDoorW.PrintWords Go.Proofs.YtajmjmnlapplaaaDoorW.PrintLast Go.Proofs.YtajmjmnlapplaaaDoorW.PrintMore

theorem pw_pow (n : Int) (h : R n) : pw n = 2 ^ n.toNat := by
  rcases h with rfl | rfl | rfl | rfl <;> decide
theorem pw_even (n : Int) (h : R n) : pw n = 2 * (pw n / 2) ∧ 128 ≤ pw n / 2 ∧ pw n / 2 ≤ 9223372036854775808 := by
  rcases h with rfl | rfl | rfl | rfl <;> decide
theorem sg_range (n x : Int) (h : R n) (h0 : 0 ≤ x) (h1 : x < pw n) : - (pw n / 2) ≤ sg n x ∧ sg n x ≤ pw n / 2 - 1 ∧ sg n x % pw n = x := by
  have e := pw_even n h
  unfold sg
  split
  · exact ⟨by omega, by omega, Int.emod_eq_of_lt h0 h1⟩
  · refine ⟨by omega, by omega, ?_⟩
    rw [Int.sub_emod_right]
    exact Int.emod_eq_of_lt h0 h1
theorem wrap_cut2 (n x : Int) (h : R n) : IntKind.u64.wrap x % pw n = x % pw n := by rw [IntKind.wrap_u64, big_cut n x h]
theorem i64_cut (n x : Int) (h : R n) : wrap64 x % pw n = x % pw n := by
  unfold wrap64
  rw [Int.sub_emod, big_cut n _ h, ← Int.sub_emod]
  congr 1
  omega
theorem cut_and (n x : Int) (h : R n) (h0 : 0 ≤ x) (h1 : x < pw n) : Go.bits .and .u64 x (pw n - 1) = x := by
  have hp := pw_pos n
  rw [and_mask n x h h0 (by omega)]
  exact Int.emod_eq_of_lt h0 h1
theorem sg_zero (n x : Int) (h : R n) (h0 : 0 ≤ x) (h1 : x < pw n) : sg n x = 0 ↔ x = 0 := by
  have e := pw_even n h
  unfold sg
  constructor
  · split <;> omega
  · intro hx; subst hx; rw [if_pos (by omega)]
theorem tdiv_range (x y m : Int) (hx : - m ≤ x ∧ x ≤ m) : - m ≤ Int.tdiv x y ∧ Int.tdiv x y ≤ m := by
  have h1 : (Int.tdiv x y).natAbs ≤ x.natAbs := by rw [Int.natAbs_tdiv]; exact Nat.div_le_self _ _
  omega
theorem tmod_range (x y m : Int) (hx : - m ≤ x ∧ x ≤ m) : - m ≤ Int.tmod x y ∧ Int.tmod x y ≤ m := by
  have h1 : (Int.tmod x y).natAbs ≤ x.natAbs := by rw [Int.natAbs_tmod]; exact Nat.mod_le _ _
  omega
section
variable (k : Nat) (n a b : Int) (h : R n) (a0 : 0 ≤ a) (a1 : a < 18446744073709551616) (b0 : 0 ≤ b) (b1 : b < 18446744073709551616)
include h a0 a1 b0 b1
omit a0 a1 b0 b1 in
theorem div_enter (op : Int) : ints_divided.f (k + 1) n op (a % pw n) (b % pw n) = (if b % pw n = 0 then (some (0, 41)) else (if op = 5 then (some (IntKind.u64.wrap (Int.tdiv (a % pw n) (b % pw n)), 0)) else (if op = 7 then (some (Int.tmod (a % pw n) (b % pw n), 0)) else (if op = 6 then (ints_divided.j0 (k + 1) n op (a % pw n) (sg n (a % pw n)) (sg n (b % pw n)) (sg n (b % pw n) == (-1))) else (ints_divided.j0 (k + 1) n op (a % pw n) (sg n (a % pw n)) (sg n (b % pw n)) false))))) := by
  have ca := cut_bounds n a; have cb := cut_bounds n b; have hp := pw_pos n
  unfold ints_divided.f
  rw [signed_ok n _ h ca.1 (by omega), signed_ok n _ h cb.1 (by omega), cut_cut, cut_cut]
  simp only [Option.bind_some]
theorem op5 : ints_Bin.f (k + 3) n 5 a b = some (binI n 5 (a % pw n) (b % pw n)) := by
  have ca := cut_bounds n a; have cb := cut_bounds n b; have hp := pw_pos n
  rw [bin_div k n 5 a b ⟨h, by omega, by omega, by omega⟩ (by omega) a0 a1 b0 b1, div_enter k n a b h]
  show _ = some (if b % pw n = 0 then (0, 41) else (a % pw n / (b % pw n), 0))
  by_cases hb : b % pw n = 0
  · rw [if_pos hb, if_pos hb]
    show some (Go.bits .and .u64 0 _, (41 : Int)) = _
    rw [cut_and n 0 h (by omega) (by omega)]
  · rw [if_neg hb, if_neg hb, if_pos rfl, Int.tdiv_eq_ediv_of_nonneg ca.1]
    have hd := Int.ediv_nonneg ca.1 cb.1
    have hd2 := Int.ediv_le_self (b % pw n) ca.1
    rw [wr_u _ hd (by omega)]
    show some (Go.bits .and .u64 _ _, (0 : Int)) = _
    rw [cut_and n _ h hd (by omega)]
theorem op7 : ints_Bin.f (k + 3) n 7 a b = some (binI n 7 (a % pw n) (b % pw n)) := by
  have ca := cut_bounds n a; have cb := cut_bounds n b; have hp := pw_pos n
  rw [bin_div k n 7 a b ⟨h, by omega, by omega, by omega⟩ (by omega) a0 a1 b0 b1, div_enter k n a b h]
  show _ = some (if b % pw n = 0 then (0, 41) else (a % pw n % (b % pw n), 0))
  by_cases hb : b % pw n = 0
  · rw [if_pos hb, if_pos hb]
    show some (Go.bits .and .u64 0 _, (41 : Int)) = _
    rw [cut_and n 0 h (by omega) (by omega)]
  · rw [if_neg hb, if_neg hb, if_neg (by decide), if_pos rfl, Int.tmod_eq_emod_of_nonneg ca.1]
    have hd := Int.emod_nonneg (a % pw n) hb
    have hd2 := Int.emod_lt_of_pos (a % pw n) (show 0 < b % pw n by omega)
    show some (Go.bits .and .u64 _ _, (0 : Int)) = _
    rw [cut_and n _ h hd (by omega)]
theorem op6 : ints_Bin.f (k + 3) n 6 a b = some (binI n 6 (a % pw n) (b % pw n)) := by
  have ca := cut_bounds n a; have cb := cut_bounds n b; have hp := pw_pos n
  have sa := sg_range n _ h ca.1 ca.2; have sb := sg_range n _ h cb.1 cb.2; have pe := pw_even n h
  have hz := sg_zero n _ h cb.1 cb.2
  rw [bin_div k n 6 a b ⟨h, by omega, by omega, by omega⟩ (by omega) a0 a1 b0 b1, div_enter k n a b h]
  show _ = some (if b % pw n = 0 then (0, 41) else (Int.tmod (sg n (a % pw n)) (sg n (b % pw n)) % pw n, 0))
  by_cases hb : b % pw n = 0
  · rw [if_pos hb, if_pos hb]
    show some (Go.bits .and .u64 0 _, (41 : Int)) = _
    rw [cut_and n 0 h (by omega) (by omega)]
  · rw [if_neg hb, if_neg hb, if_neg (by decide), if_neg (by decide), if_pos rfl]
    simp only [ints_divided.j0]
    by_cases hm : sg n (b % pw n) = -1
    · rw [hm]
      simp only [BEq.rfl, if_true]
      rw [Int.tmod_neg, Int.tmod_one]
      show some (Go.bits .and .u64 0 _, (0 : Int)) = _
      rw [cut_and n 0 h (by omega) (by omega)]
      rfl
    · rw [show (sg n (b % pw n) == -1) = false from by simp [hm]]
      simp only [Bool.false_eq_true, if_false, if_true]
      rw [if_neg (fun e => hb (hz.1 e))]
      show some (Go.bits .and .u64 (IntKind.u64.wrap _) _, (0 : Int)) = _
      rw [wrap_cut n _ h]
theorem op4 : ints_Bin.f (k + 3) n 4 a b = some (binI n 4 (a % pw n) (b % pw n)) := by
  have ca := cut_bounds n a; have cb := cut_bounds n b; have hp := pw_pos n
  have sa := sg_range n _ h ca.1 ca.2; have sb := sg_range n _ h cb.1 cb.2; have pe := pw_even n h
  have hz := sg_zero n _ h cb.1 cb.2
  have hn : 8 ≤ n ∧ n ≤ 64 := by unfold R at h; omega
  rw [bin_div k n 4 a b ⟨h, by omega, by omega, by omega⟩ (by omega) a0 a1 b0 b1, div_enter k n a b h]
  show _ = some (if b % pw n = 0 then (0, 41) else if sg n (b % pw n) = -1 ∧ a % pw n = pw n / 2 then (0, 42) else (Int.tdiv (sg n (a % pw n)) (sg n (b % pw n)) % pw n, 0))
  by_cases hb : b % pw n = 0
  · rw [if_pos hb, if_pos hb]
    show some (Go.bits .and .u64 0 _, (41 : Int)) = _
    rw [cut_and n 0 h (by omega) (by omega)]
  · rw [if_neg hb, if_neg hb, if_neg (by decide), if_neg (by decide), if_neg (by decide)]
    have hs : shl .u64 1 (n - 1) = pw n / 2 := by
      rcases h with rfl | rfl | rfl | rfl <;> decide +kernel
    have last : (if sg n (b % pw n) = 0 then (none : Option (Int × Int)) else (some (IntKind.u64.wrap (wrap64 (Int.tdiv (sg n (a % pw n)) (sg n (b % pw n)))), 0))).bind (fun t => some (Go.bits .and .u64 t.1 (pw n - 1), t.2)) = some (Int.tdiv (sg n (a % pw n)) (sg n (b % pw n)) % pw n, 0) := by
      rw [if_neg (fun e => hb (hz.1 e))]
      show some (Go.bits .and .u64 (IntKind.u64.wrap _) _, (0 : Int)) = _
      rw [wrap_cut n _ h, i64_cut n _ h]
    simp only [ints_divided.j0, Bool.false_eq_true, if_false]
    rw [if_neg (by decide), wr_i (n - 1) (by omega) (by omega), hs]
    by_cases hm : sg n (b % pw n) = -1
    · rw [if_pos hm, if_pos (by omega)]
      by_cases hmin : a % pw n = pw n / 2
      · rw [if_pos hmin, if_pos ⟨hm, hmin⟩]
        show some (Go.bits .and .u64 0 _, (42 : Int)) = _
        rw [cut_and n 0 h (by omega) (by omega)]
      · rw [if_neg hmin]
        refine last.trans ?_
        rw [if_neg (fun e => hmin e.2)]
    · rw [if_neg hm]
      refine last.trans ?_
      rw [if_neg (fun e => hm e.1)]

omit a0 a1 b0 b1 in
theorem mov_bounds : 8 ≤ n ∧ n ≤ 64 ∧ 0 ≤ b % pw n % n ∧ b % pw n % n < n := by
  have hn : 8 ≤ n ∧ n ≤ 64 := by unfold R at h; omega
  exact ⟨hn.1, hn.2, Int.emod_nonneg _ (by omega), Int.emod_lt_of_pos _ (by omega)⟩
theorem op11 : ints_Bin.f (k + 3) n 11 a b = some (binI n 11 (a % pw n) (b % pw n)) := by
  have ca := cut_bounds n a; have cb := cut_bounds n b; have hp := pw_pos n
  have hm := mov_bounds n b h
  rw [bin_mov k n 11 a b ⟨h, by omega, by omega, by omega⟩ (by omega) a0 a1 b0 b1]
  show _ = some (a % pw n * 2 ^ (b % pw n % n).toNat % pw n, 0)
  unfold ints_moved.f
  rw [if_neg (by decide), if_neg (by decide), if_neg (by decide), if_neg (by decide), if_pos hm.2.2.1, shl_u64, show min (b % pw n % n).toNat 64 = (b % pw n % n).toNat from by omega]
  show some (Go.bits .and .u64 _ _, (0 : Int)) = _
  rw [and_mask n _ h (by omega) (by omega), big_cut n _ h]
theorem op12 : ints_Bin.f (k + 3) n 12 a b = some (binI n 12 (a % pw n) (b % pw n)) := by
  have ca := cut_bounds n a; have cb := cut_bounds n b; have hp := pw_pos n
  have hm := mov_bounds n b h
  rw [bin_mov k n 12 a b ⟨h, by omega, by omega, by omega⟩ (by omega) a0 a1 b0 b1]
  show _ = some (sg n (a % pw n) / 2 ^ (b % pw n % n).toNat % pw n, 0)
  unfold ints_moved.f
  rw [if_pos rfl, signed_ok n _ h ca.1 (by omega), cut_cut]
  simp only [Option.bind_some]
  rw [if_pos hm.2.2.1, shr_any, show min (b % pw n % n).toNat IntKind.i64.bits = (b % pw n % n).toNat from by show min _ 64 = _; omega]
  show some (Go.bits .and .u64 (IntKind.u64.wrap _) _, (0 : Int)) = _
  rw [wrap_cut n _ h]
theorem op13 : ints_Bin.f (k + 3) n 13 a b = some (binI n 13 (a % pw n) (b % pw n)) := by
  have ca := cut_bounds n a; have cb := cut_bounds n b; have hp := pw_pos n
  have hm := mov_bounds n b h
  rw [bin_mov k n 13 a b ⟨h, by omega, by omega, by omega⟩ (by omega) a0 a1 b0 b1]
  show _ = some (a % pw n / 2 ^ (b % pw n % n).toNat, 0)
  unfold ints_moved.f
  rw [if_neg (by decide), if_pos rfl, if_pos hm.2.2.1, shr_any, show min (b % pw n % n).toNat IntKind.u64.bits = (b % pw n % n).toNat from by show min _ 64 = _; omega]
  show some (Go.bits .and .u64 _ _, (0 : Int)) = _
  have hd := Int.ediv_nonneg (b := 2 ^ (b % pw n % n).toNat) ca.1 (Int.le_of_lt (Int.pow_pos (by decide)))
  have hd2 := Int.ediv_le_self (2 ^ (b % pw n % n).toNat) ca.1
  rw [cut_and n _ h hd (by omega)]
omit a0 a1 b0 b1 in
/-- What is moved round, as the code has it. -/
theorem rot_code (A c : Int) (hA0 : 0 ≤ A) (hA : A < pw n) (hc0 : 0 ≤ c) (hc : c < n) :
    Go.bits .and .u64 (Go.bits .or .u64 (shl .u64 A c) (shr .u64 A (n - c))) (pw n - 1) = rotI n A c := by
  have hn : 8 ≤ n ∧ n ≤ 64 := by unfold R at h; omega
  have hp := pw_pos n
  have e : (2 : Int) ^ c.toNat * 2 ^ (n - c).toNat = pw n := by
    rw [← Int.pow_add, show c.toNat + (n - c).toNat = n.toNat from by omega]
    exact (pw_pow n h).symm
  have e64 : (2 : Int) ^ c.toNat * 2 ^ (64 - c).toNat = 18446744073709551616 := by
    rw [← Int.pow_add, show c.toNat + (64 - c).toNat = 64 from by omega]
    decide
  have hp2 : (0 : Int) < 2 ^ c.toNat := Int.pow_pos (by decide)
  have hq : (0 : Int) < 2 ^ (n - c).toNat := Int.pow_pos (by decide)
  rw [shl_u64, shr_any, show min c.toNat 64 = c.toNat from by omega, show min (n - c).toNat IntKind.u64.bits = (n - c).toNat from by show min _ 64 = _; omega]
  unfold rotI
  have y0 : 0 ≤ A / 2 ^ (n - c).toNat := Int.ediv_nonneg hA0 (by omega)
  have y1 : A / 2 ^ (n - c).toNat < 2 ^ c.toNat := Int.ediv_lt_of_lt_mul hq (by rw [e]; exact hA)
  have x0 : A * 2 ^ c.toNat % 18446744073709551616 % 2 ^ c.toNat = 0 := by
    rw [Int.emod_emod_of_dvd _ ⟨_, e64.symm⟩]; exact Int.mul_emod_left _ _
  have z0 : A * 2 ^ c.toNat % pw n % 2 ^ c.toNat = 0 := by
    rw [Int.emod_emod_of_dvd _ ⟨_, e.symm⟩]; exact Int.mul_emod_left _ _
  have zr := cut_bounds n (A * 2 ^ c.toNat)
  have yb : A / 2 ^ (n - c).toNat < 18446744073709551616 := by
    have := Int.ediv_le_self (2 ^ (n - c).toNat) hA0; omega
  have hk : ∀ m : Int, 0 ≤ m → m < 2 ^ 64 → IntKind.u64.wrap m = m := fun m u v => IntWalk.u64_in m (by omega)
  have xr : 0 ≤ A * 2 ^ c.toNat % 18446744073709551616 ∧ A * 2 ^ c.toNat % 18446744073709551616 < 18446744073709551616 := by omega
  rw [bits_join .u64 64 (by decide) hk c.toNat _ _ xr.1 x0 (by omega) y0 y1 (by omega)]
  generalize hX : A * 2 ^ c.toNat % 18446744073709551616 = X at *
  have hXZ : X % pw n = A * 2 ^ c.toNat % pw n := by rw [← hX, big_cut n _ h]
  generalize hY : A / 2 ^ (n - c).toNat = Y at *
  have hs : X + Y < 18446744073709551616 := by
    have d := Int.mul_ediv_add_emod X (2 ^ c.toNat)
    rw [x0] at d
    have : X / 2 ^ c.toNat < 2 ^ (64 - c).toNat := Int.ediv_lt_of_lt_mul hp2 (by rw [Int.mul_comm, e64]; exact xr.2)
    have m := Int.mul_le_mul_of_nonneg_left (show X / 2 ^ c.toNat + 1 ≤ 2 ^ (64 - c).toNat by omega) (show (0 : Int) ≤ 2 ^ c.toNat by omega)
    rw [e64, Int.mul_add] at m
    omega
  rw [and_mask n _ h (by omega) hs, ← Int.emod_add_emod, hXZ]
  generalize A * 2 ^ c.toNat % pw n = Z at *
  have d := Int.mul_ediv_add_emod Z (2 ^ c.toNat)
  rw [z0] at d
  have : Z / 2 ^ c.toNat < 2 ^ (n - c).toNat := Int.ediv_lt_of_lt_mul hp2 (by rw [Int.mul_comm, e]; exact zr.2)
  have m := Int.mul_le_mul_of_nonneg_left (show Z / 2 ^ c.toNat + 1 ≤ 2 ^ (n - c).toNat by omega) (show (0 : Int) ≤ 2 ^ c.toNat by omega)
  rw [e, Int.mul_add] at m
  exact Int.emod_eq_of_lt (by omega) (by omega)
theorem op14 : ints_Bin.f (k + 3) n 14 a b = some (binI n 14 (a % pw n) (b % pw n)) := by
  have ca := cut_bounds n a; have cb := cut_bounds n b; have hp := pw_pos n
  have hm := mov_bounds n b h
  rw [bin_mov k n 14 a b ⟨h, by omega, by omega, by omega⟩ (by omega) a0 a1 b0 b1]
  show _ = some (rotI n (a % pw n) (b % pw n % n), 0)
  unfold ints_moved.f
  rw [if_neg (by decide), if_neg (by decide), if_neg (by decide), if_pos rfl, if_pos hm.2.2.1, wr_u n (by omega) (by omega), wr_u (n - b % pw n % n) (by omega) (by omega), if_pos (by omega)]
  show some (Go.bits .and .u64 _ _, (0 : Int)) = _
  rw [rot_code n h _ _ ca.1 ca.2 hm.2.2.1 hm.2.2.2]
theorem op15 : ints_Bin.f (k + 3) n 15 a b = some (binI n 15 (a % pw n) (b % pw n)) := by
  have ca := cut_bounds n a; have cb := cut_bounds n b; have hp := pw_pos n
  have hm := mov_bounds n b h
  have h0 := Int.emod_nonneg (n - b % pw n % n) (show n ≠ 0 by omega)
  have h1 := Int.emod_lt_of_pos (n - b % pw n % n) (show 0 < n by omega)
  rw [bin_mov k n 15 a b ⟨h, by omega, by omega, by omega⟩ (by omega) a0 a1 b0 b1]
  show _ = some (rotI n (a % pw n) ((n - b % pw n % n) % n), 0)
  unfold ints_moved.f
  rw [if_neg (by decide), if_neg (by decide), if_pos rfl, wr_u n (by omega) (by omega), if_neg (by omega), wr_u (n - b % pw n % n) (by omega) (by omega), Int.tmod_eq_emod_of_nonneg (by omega), if_pos h0,
    wr_u (n - (n - b % pw n % n) % n) (by omega) (by omega), if_pos (by omega)]
  show some (Go.bits .and .u64 _ _, (0 : Int)) = _
  rw [rot_code n h _ _ ca.1 ca.2 h0 h1]
end
end Go.Proofs.YtajmjmnlapplaaaDoor.Pure
