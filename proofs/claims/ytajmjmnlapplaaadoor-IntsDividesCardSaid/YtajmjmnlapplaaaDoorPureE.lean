/-
  The plain law of ints.Bin, on: what is held within its bounds; all operations together.
-/
import Derived.Test.YtajmjmnlapplaaaDoorPureD
namespace Go.Proofs.YtajmjmnlapplaaaDoor.Pure
set_option linter.unusedVariables false
set_option linter.unusedSimpArgs false
open Go.RowKit Go.Proofs.YtajmjmnlapplaaaDoor.PInts Go.Proofs.YtajmjmnlapplaaaDoorW.PrintWords Go.Proofs.YtajmjmnlapplaaaDoorW.PrintLast Go.Proofs.YtajmjmnlapplaaaDoorW.PrintMore

theorem kept_ok (k : Nat) (n x y : Int) (h : R n) (x0 : - (pw n / 2) ≤ x) (x1 : x ≤ pw n / 2 - 1) (y0 : - (pw n / 2) ≤ y) (y1 : y ≤ pw n / 2 - 1) :
    ints_kept.f (k + 1) x y (pw n / 2 - 1) = some (clampI n (x + y)) := by
  have e := pw_even n h
  unfold ints_kept.f clampI
  generalize pw n / 2 = M at *
  by_cases hy : y > 0
  · rw [if_pos hy, wr_i (M - 1 - y) (by omega) (by omega)]
    by_cases hx : x > M - 1 - y
    · rw [decide_eq_true hx, if_pos (by omega)]; simp [ints_kept.j0]
    · rw [decide_eq_false hx]
      simp only [ints_kept.j0, Bool.false_eq_true, if_false]
      rw [if_neg (by omega), if_neg (by omega), if_neg (by omega), wr_i (x + y) (by omega) (by omega)]
  · rw [if_neg hy]
    simp only [ints_kept.j0, Bool.false_eq_true, if_false]
    rw [wr_i (-(M - 1)) (by omega) (by omega), wr_i (-(M - 1) - 1) (by omega) (by omega)]
    by_cases hy2 : y < 0
    · rw [if_pos hy2, wr_i (-(M - 1) - 1 - y) (by omega) (by omega)]
      by_cases hx : x < -(M - 1) - 1 - y
      · rw [if_pos hx, if_neg (by omega), if_pos (by omega)]
        congr 1; omega
      · rw [if_neg hx, if_neg (by omega), if_neg (by omega), wr_i (x + y) (by omega) (by omega)]
    · rw [if_neg hy2, if_neg (by omega), if_neg (by omega), wr_i (x + y) (by omega) (by omega)]
theorem clamp_range (n x : Int) (h : R n) : - (pw n / 2) ≤ clampI n x ∧ clampI n x ≤ pw n / 2 - 1 := by
  have e := pw_even n h
  unfold clampI
  split <;> (try split) <;> omega
theorem clamp_twice (n x : Int) (h : R n) (x0 : - (pw n / 2) ≤ x) (x1 : x ≤ pw n / 2 - 1) : clampI n (clampI n (x + (pw n / 2 - 1)) + 1) = clampI n (x + pw n / 2) := by
  have e := pw_even n h
  unfold clampI
  generalize pw n / 2 = M at *
  repeat' split
  all_goals omega
theorem mul_bounds (x y : Int) (x0 : -32768 ≤ x) (x1 : x ≤ 32767) (y0 : -32768 ≤ y) (y1 : y ≤ 32767) : -1073741824 ≤ x * y ∧ x * y ≤ 1073741824 := by
  have h : (x * y).natAbs ≤ 32768 * 32768 := by rw [Int.natAbs_mul]; exact Nat.mul_le_mul (by omega) (by omega)
  omega
section
variable (k : Nat) (n a b : Int) (h : R n) (a0 : 0 ≤ a) (a1 : a < 18446744073709551616) (b0 : 0 ≤ b) (b1 : b < 18446744073709551616)
include h a0 a1 b0 b1
omit a0 a1 b0 b1 in
theorem most_ok : wrap64 ((pw n - 1) / 2) = pw n / 2 - 1 := by
  have e := pw_even n h
  rw [wr_i _ (by omega) (by omega)]; omega
omit a0 a1 b0 b1 in
theorem held_enter (op : Int) (h16 : 16 ≤ op) (h25 : op ≤ 25) : ints_held.f k n op (a % pw n) (b % pw n) =
    (if op = 19 then (some (IntKind.u64.wrap (a % pw n - (mn (a % pw n) (b % pw n))))) else (if op = 17 then (some (IntKind.u64.wrap (a % pw n + (mn (b % pw n) (IntKind.u64.wrap (pw n - 1 - a % pw n)))))) else (if op = 21 then (some (mn (a % pw n) (b % pw n))) else (if op = 23 then (some (mx (a % pw n) (b % pw n))) else (if op = 20 then (some (IntKind.u64.wrap (mn (sg n (a % pw n)) (sg n (b % pw n))))) else (if op = 22 then (some (IntKind.u64.wrap (mx (sg n (a % pw n)) (sg n (b % pw n))))) else
    (if op = 24 then (some (IntKind.u64.wrap ((IntKind.u64.wrap ((IntKind.u64.wrap (Int.tdiv (a % pw n) 2)) + (IntKind.u64.wrap (Int.tdiv (b % pw n) 2)))) + (IntKind.u64.wrap (Int.tdiv (IntKind.u64.wrap ((IntKind.u64.wrap ((Go.bits .and .u64 (a % pw n) 1) + (Go.bits .and .u64 (b % pw n) 1))) + 1)) 2))))) else (if op = 25 then (some (IntKind.u64.wrap (mn ((wrap64 ((wrap64 (sg n (a % pw n) * sg n (b % pw n))) + 16384)) / 32768) (pw n / 2 - 1)))) else
    (if op = 18 then (if sg n (b % pw n) = (wrap64 ((wrap64 (-(pw n / 2 - 1))) - 1)) then ((ints_kept.f k (sg n (a % pw n)) (pw n / 2 - 1) (pw n / 2 - 1)).bind fun t109 => ((ints_kept.f k t109 1 (pw n / 2 - 1)).bind fun t110 => (some (IntKind.u64.wrap (t110))))) else ((ints_kept.f k (sg n (a % pw n)) (wrap64 (-sg n (b % pw n))) (pw n / 2 - 1)).bind fun t111 => (some (IntKind.u64.wrap (t111))))) else ((ints_kept.f k (sg n (a % pw n)) (sg n (b % pw n)) (pw n / 2 - 1)).bind fun t112 => (some (IntKind.u64.wrap (t112))))))))))))) := by
  have ca := cut_bounds n a; have cb := cut_bounds n b; have hp := pw_pos n
  unfold ints_held.f
  rw [signed_ok n _ h ca.1 (by omega), signed_ok n _ h cb.1 (by omega), cut_cut, cut_cut, mask_ok n h]
  simp only [Option.bind_some]
  rw [most_ok n h]
theorem op19 : ints_Bin.f (k + 3) n 19 a b = some (binI n 19 (a % pw n) (b % pw n)) := by
  have ca := cut_bounds n a; have cb := cut_bounds n b; have hp := pw_pos n
  rw [bin_held k n 19 a b ⟨h, by omega, by omega, by omega⟩ (by omega) a0 a1 b0 b1, held_enter k n a b h 19 (by omega) (by omega), if_pos rfl]
  show some (Go.bits .and .u64 _ _, (0 : Int)) = some (if a % pw n < b % pw n then 0 else a % pw n - b % pw n, 0)
  rw [wrap_cut n _ h]
  congr 2
  unfold mn
  split <;> split <;> first | omega | exact Int.emod_eq_of_lt (by omega) (by omega) | (rw [Int.sub_self, Int.zero_emod] <;> omega)
theorem op17 : ints_Bin.f (k + 3) n 17 a b = some (binI n 17 (a % pw n) (b % pw n)) := by
  have ca := cut_bounds n a; have cb := cut_bounds n b; have hp := pw_pos n
  rw [bin_held k n 17 a b ⟨h, by omega, by omega, by omega⟩ (by omega) a0 a1 b0 b1, held_enter k n a b h 17 (by omega) (by omega), if_neg (by decide), if_pos rfl]
  show some (Go.bits .and .u64 _ _, (0 : Int)) = some (if a % pw n + b % pw n > pw n - 1 then pw n - 1 else a % pw n + b % pw n, 0)
  rw [wrap_cut n _ h, wr_u (pw n - 1 - a % pw n) (by omega) (by omega)]
  congr 2
  unfold mn
  split <;> split <;> first | omega | exact Int.emod_eq_of_lt (by omega) (by omega) | (rw [show a % pw n + (pw n - 1 - a % pw n) = pw n - 1 from by omega]; exact Int.emod_eq_of_lt (by omega) (by omega))
theorem op21 : ints_Bin.f (k + 3) n 21 a b = some (binI n 21 (a % pw n) (b % pw n)) := by
  have ca := cut_bounds n a; have cb := cut_bounds n b; have hp := pw_pos n
  rw [bin_held k n 21 a b ⟨h, by omega, by omega, by omega⟩ (by omega) a0 a1 b0 b1, held_enter k n a b h 21 (by omega) (by omega), if_neg (by decide), if_neg (by decide), if_pos rfl]
  show some (Go.bits .and .u64 _ _, (0 : Int)) = some (if a % pw n < b % pw n then a % pw n else b % pw n, 0)
  unfold mn
  congr 2
  split <;> split <;> first | (rw [cut_and n _ h (by omega) (by omega)]; try omega) | omega
theorem op23 : ints_Bin.f (k + 3) n 23 a b = some (binI n 23 (a % pw n) (b % pw n)) := by
  have ca := cut_bounds n a; have cb := cut_bounds n b; have hp := pw_pos n
  rw [bin_held k n 23 a b ⟨h, by omega, by omega, by omega⟩ (by omega) a0 a1 b0 b1, held_enter k n a b h 23 (by omega) (by omega), if_neg (by decide), if_neg (by decide), if_neg (by decide), if_pos rfl]
  show some (Go.bits .and .u64 _ _, (0 : Int)) = some (if a % pw n < b % pw n then b % pw n else a % pw n, 0)
  unfold mx
  congr 2
  split <;> (rw [cut_and n _ h (by omega) (by omega)])
theorem op20 : ints_Bin.f (k + 3) n 20 a b = some (binI n 20 (a % pw n) (b % pw n)) := by
  have ca := cut_bounds n a; have cb := cut_bounds n b; have hp := pw_pos n
  have sa := sg_range n _ h ca.1 ca.2; have sb := sg_range n _ h cb.1 cb.2
  rw [bin_held k n 20 a b ⟨h, by omega, by omega, by omega⟩ (by omega) a0 a1 b0 b1, held_enter k n a b h 20 (by omega) (by omega), if_neg (by decide), if_neg (by decide), if_neg (by decide), if_neg (by decide), if_pos rfl]
  show some (Go.bits .and .u64 _ _, (0 : Int)) = some (if sg n (a % pw n) < sg n (b % pw n) then a % pw n else b % pw n, 0)
  rw [wrap_cut n _ h]
  unfold mn
  congr 2
  by_cases h1 : sg n (b % pw n) < sg n (a % pw n)
  · rw [if_pos h1, if_neg (by omega), sb.2.2]
  · rw [if_neg h1]
    by_cases h2 : sg n (a % pw n) < sg n (b % pw n)
    · rw [if_pos h2, sa.2.2]
    · rw [if_neg h2, show sg n (a % pw n) = sg n (b % pw n) from by omega, sb.2.2]
theorem op22 : ints_Bin.f (k + 3) n 22 a b = some (binI n 22 (a % pw n) (b % pw n)) := by
  have ca := cut_bounds n a; have cb := cut_bounds n b; have hp := pw_pos n
  have sa := sg_range n _ h ca.1 ca.2; have sb := sg_range n _ h cb.1 cb.2
  rw [bin_held k n 22 a b ⟨h, by omega, by omega, by omega⟩ (by omega) a0 a1 b0 b1, held_enter k n a b h 22 (by omega) (by omega), if_neg (by decide), if_neg (by decide), if_neg (by decide), if_neg (by decide), if_neg (by decide), if_pos rfl]
  show some (Go.bits .and .u64 _ _, (0 : Int)) = some (if sg n (a % pw n) < sg n (b % pw n) then b % pw n else a % pw n, 0)
  rw [wrap_cut n _ h]
  unfold mx
  congr 2
  split
  · exact sb.2.2
  · exact sa.2.2
theorem op24 : ints_Bin.f (k + 3) n 24 a b = some (binI n 24 (a % pw n) (b % pw n)) := by
  have ca := cut_bounds n a; have cb := cut_bounds n b; have hp := pw_pos n
  rw [bin_held k n 24 a b ⟨h, by omega, by omega, by omega⟩ (by omega) a0 a1 b0 b1, held_enter k n a b h 24 (by omega) (by omega), if_neg (by decide), if_neg (by decide), if_neg (by decide), if_neg (by decide), if_neg (by decide), if_neg (by decide), if_pos rfl]
  show some (Go.bits .and .u64 _ _, (0 : Int)) = some ((a % pw n + b % pw n + 1) / 2, 0)
  have hk : ∀ m : Int, 0 ≤ m → m < 2 ^ 64 → IntKind.u64.wrap m = m := fun m u v => IntWalk.u64_in m (by omega)
  have one : ∀ x : Int, 0 ≤ x → x < 18446744073709551616 → Go.bits .and .u64 x 1 = x % 2 := fun x u v => bits_mask .u64 64 (by decide) hk 1 (by decide) x u (by omega)
  rw [one _ ca.1 (by omega), one _ cb.1 (by omega)]
  generalize a % pw n = A at *
  generalize b % pw n = B at *
  rw [half A (by omega) (by omega), half B (by omega) (by omega), wr_u (A % 2 + B % 2) (by omega) (by omega), half (IntKind.u64.wrap (A % 2 + B % 2 + 1)) (by rw [wr_u] <;> omega) (by rw [wr_u] <;> omega), wr_u (A % 2 + B % 2 + 1) (by omega) (by omega), wr_u (A / 2 + B / 2) (by omega) (by omega), wrap_cut n _ h]
  congr 2
  rw [Int.emod_eq_of_lt (by omega) (by omega)]
  omega
theorem op25 (h16 : n = 16) : ints_Bin.f (k + 3) n 25 a b = some (binI n 25 (a % pw n) (b % pw n)) := by
  have ca := cut_bounds n a; have cb := cut_bounds n b; have hp := pw_pos n
  have sa := sg_range n _ h ca.1 ca.2; have sb := sg_range n _ h cb.1 cb.2
  rw [bin_held k n 25 a b ⟨h, by omega, by omega, by omega⟩ (by omega) a0 a1 b0 b1, held_enter k n a b h 25 (by omega) (by omega), if_neg (by decide), if_neg (by decide), if_neg (by decide), if_neg (by decide), if_neg (by decide), if_neg (by decide), if_neg (by decide), if_pos rfl]
  show some (Go.bits .and .u64 _ _, (0 : Int)) = some (if (sg n (a % pw n) * sg n (b % pw n) + 16384) / 32768 > 32767 then 32767 else (sg n (a % pw n) * sg n (b % pw n) + 16384) / 32768 % 65536, 0)
  rw [wrap_cut n _ h]
  subst h16
  rw [pw16] at sa sb ⊢
  have m := mul_bounds _ _ sa.1 (by omega) sb.1 (by omega)
  generalize sg 16 (a % 65536) * sg 16 (b % 65536) = p at *
  rw [wr_i p (by omega) (by omega), wr_i (p + 16384) (by omega) (by omega)]
  congr 2
  unfold mn
  split <;> split <;> omega
theorem op16 : ints_Bin.f (k + 4) n 16 a b = some (binI n 16 (a % pw n) (b % pw n)) := by
  have ca := cut_bounds n a; have cb := cut_bounds n b; have hp := pw_pos n
  have sa := sg_range n _ h ca.1 ca.2; have sb := sg_range n _ h cb.1 cb.2
  rw [show k + 4 = (k + 1) + 3 from rfl, bin_held (k + 1) n 16 a b ⟨h, by omega, by omega, by omega⟩ (by omega) a0 a1 b0 b1, held_enter (k + 1) n a b h 16 (by omega) (by omega), if_neg (by decide), if_neg (by decide), if_neg (by decide), if_neg (by decide), if_neg (by decide), if_neg (by decide), if_neg (by decide), if_neg (by decide), if_neg (by decide),
    kept_ok k n _ _ h sa.1 sa.2.1 sb.1 sb.2.1]
  show some (Go.bits .and .u64 (IntKind.u64.wrap _) _, (0 : Int)) = _
  rw [wrap_cut n _ h]
  rfl
theorem op18 : ints_Bin.f (k + 4) n 18 a b = some (binI n 18 (a % pw n) (b % pw n)) := by
  have ca := cut_bounds n a; have cb := cut_bounds n b; have hp := pw_pos n; have pe := pw_even n h
  have sa := sg_range n _ h ca.1 ca.2; have sb := sg_range n _ h cb.1 cb.2
  rw [show k + 4 = (k + 1) + 3 from rfl, bin_held (k + 1) n 18 a b ⟨h, by omega, by omega, by omega⟩ (by omega) a0 a1 b0 b1, held_enter (k + 1) n a b h 18 (by omega) (by omega), if_neg (by decide), if_neg (by decide), if_neg (by decide), if_neg (by decide), if_neg (by decide), if_neg (by decide), if_neg (by decide), if_neg (by decide), if_pos rfl,
    wr_i (-(pw n / 2 - 1)) (by omega) (by omega), wr_i (-(pw n / 2 - 1) - 1) (by omega) (by omega)]
  show _ = some (clampI n (sg n (a % pw n) - sg n (b % pw n)) % pw n, 0)
  by_cases hy : sg n (b % pw n) = -(pw n / 2 - 1) - 1
  · rw [if_pos hy, kept_ok k n _ _ h sa.1 sa.2.1 (by omega) (by omega)]
    simp only [Option.bind_some]
    have cr := clamp_range n (sg n (a % pw n) + (pw n / 2 - 1)) h
    rw [kept_ok k n _ 1 h cr.1 cr.2 (by omega) (by omega), clamp_twice n _ h sa.1 sa.2.1, show sg n (a % pw n) - sg n (b % pw n) = sg n (a % pw n) + pw n / 2 from by omega]
    show some (Go.bits .and .u64 (IntKind.u64.wrap _) _, (0 : Int)) = _
    rw [wrap_cut n _ h]
  · rw [if_neg hy, wr_i (-sg n (b % pw n)) (by omega) (by omega), kept_ok k n _ _ h sa.1 sa.2.1 (by omega) (by omega), show sg n (a % pw n) + -sg n (b % pw n) = sg n (a % pw n) - sg n (b % pw n) from by omega]
    show some (Go.bits .and .u64 (IntKind.u64.wrap _) _, (0 : Int)) = _
    rw [wrap_cut n _ h]
end

/-- WHAT ANY TWO COME TO. -/
theorem bin_yes (k : Nat) (n op a b : Int) (h : Ok n op) (a0 : 0 ≤ a) (a1 : a < 18446744073709551616) (b0 : 0 ≤ b) (b1 : b < 18446744073709551616) (hk : 4 ≤ k) :
    ints_Bin.f k n op a b = some (binI n op (a % pw n) (b % pw n)) := by
  obtain ⟨k, rfl⟩ : ∃ m, k = m + 4 := ⟨k - 4, by omega⟩
  obtain ⟨hR, h1, h2, h3⟩ := h
  have : op = 1 ∨ op = 2 ∨ op = 3 ∨ op = 4 ∨ op = 5 ∨ op = 6 ∨ op = 7 ∨ op = 8 ∨ op = 9 ∨ op = 10 ∨ op = 11 ∨ op = 12 ∨ op = 13 ∨ op = 14 ∨ op = 15 ∨ op = 16 ∨ op = 17 ∨ op = 18 ∨ op = 19 ∨ op = 20 ∨ op = 21 ∨ op = 22 ∨ op = 23 ∨ op = 24 ∨ op = 25 := by omega
  rcases this with rfl | rfl | rfl | rfl | rfl | rfl | rfl | rfl | rfl | rfl | rfl | rfl | rfl | rfl | rfl | rfl | rfl | rfl | rfl | rfl | rfl | rfl | rfl | rfl | rfl
  · exact op1 (k + 1) n a b hR a0 a1 b0 b1
  · exact op2 (k + 1) n a b hR a0 a1 b0 b1
  · exact op3 (k + 1) n a b hR a0 a1 b0 b1
  · exact op4 (k + 1) n a b hR a0 a1 b0 b1
  · exact op5 (k + 1) n a b hR a0 a1 b0 b1
  · exact op6 (k + 1) n a b hR a0 a1 b0 b1
  · exact op7 (k + 1) n a b hR a0 a1 b0 b1
  · exact op8 (k + 1) n a b hR a0 a1 b0 b1
  · exact op9 (k + 1) n a b hR a0 a1 b0 b1
  · exact op10 (k + 1) n a b hR a0 a1 b0 b1
  · exact op11 (k + 1) n a b hR a0 a1 b0 b1
  · exact op12 (k + 1) n a b hR a0 a1 b0 b1
  · exact op13 (k + 1) n a b hR a0 a1 b0 b1
  · exact op14 (k + 1) n a b hR a0 a1 b0 b1
  · exact op15 (k + 1) n a b hR a0 a1 b0 b1
  · exact op16 k n a b hR a0 a1 b0 b1
  · exact op17 (k + 1) n a b hR a0 a1 b0 b1
  · exact op18 k n a b hR a0 a1 b0 b1
  · exact op19 (k + 1) n a b hR a0 a1 b0 b1
  · exact op20 (k + 1) n a b hR a0 a1 b0 b1
  · exact op21 (k + 1) n a b hR a0 a1 b0 b1
  · exact op22 (k + 1) n a b hR a0 a1 b0 b1
  · exact op23 (k + 1) n a b hR a0 a1 b0 b1
  · exact op24 (k + 1) n a b hR a0 a1 b0 b1
  · exact op25 (k + 1) n a b hR a0 a1 b0 b1 (h3 rfl)
end Go.Proofs.YtajmjmnlapplaaaDoor.Pure
