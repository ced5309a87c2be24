/-
  The plain law of IntsDivides: a number is what divides it times the quotient, and the rest; the rest is less.
-/
import Derived.Test.YtajmjmnlapplaaaDoorPIntsx34
import Derived.Test.YtajmjmnlapplaaaDoorPureU
import Derived.OpenShut
namespace Go.Proofs.YtajmjmnlapplaaaDoor.Pure
set_option linter.unusedVariables false
set_option linter.unusedSimpArgs false
open Go.RowKit Go.Proofs.YtajmjmnlapplaaaDoor.PInts Go.Proofs.YtajmjmnlapplaaaDoorW.PrintWords Go.Proofs.YtajmjmnlapplaaaDoorW.PrintLast

theorem mod_parts (x y z p : Int) : (x % p * y % p + z % p) % p = (x * y + z) % p := by
  rw [← Int.add_emod, ← Int.emod_add_emod (x % p * y), Int.mul_emod (x % p) y, Int.emod_emod, ← Int.mul_emod, Int.emod_add_emod]
theorem sg_mod (n x : Int) (h : R n) (h0 : 0 ≤ x) (h1 : x < pw n) (y : Int) : y * sg n x % pw n = y * x % pw n := by
  unfold sg
  split
  · rfl
  · rw [Int.mul_sub, Int.sub_emod, Int.mul_emod_left]
    simp
theorem ev_next {g f : Nat → Option Bool} {r : Bool} (K : Nat) (h : ∀ k, K ≤ k → g (k + 1) = f k) (e : Ev f r) : Ev g r := by
  obtain ⟨J, hJ⟩ := e
  refine ⟨K + J + 1, fun k hk => ?_⟩
  obtain ⟨k, rfl⟩ : ∃ m, k = m + 1 := ⟨k - 1, by omega⟩
  rw [h k (by omega)]
  exact hJ k (by omega)

section
variable (n a b : Int) (h : R n) (a0 : 0 ≤ a) (a1 : a < 18446744073709551616) (b0 : 0 ≤ b) (b1 : b < 18446744073709551616)
include h a0 a1 b0 b1
omit h a0 a1 b0 b1 in
/-- What is left of a round where all is well. -/
theorem div_well (s : Int) (hs : 0 ≤ s ∧ s ≤ 1) (A B : Int) (e : Ev (fun k => bodkinlaw02_IntsDivides.l1 k a b n A B (s + 1)) true) :
    Ev (fun k => bodkinlaw02_IntsDivides.j3 k a b n A B s 0 0 A true) true := by
  refine ev_next 0 (fun k _ => ?_) (ev_next (g := fun k => bodkinlaw02_IntsDivides.j4 k a b n A B s false) 0 (fun k _ => ?_) e)
  · simp only [bodkinlaw02_IntsDivides.j3, if_true]
    rfl
  · simp only [bodkinlaw02_IntsDivides.j4, Bool.false_eq_true, if_false]
    rw [wr_i (s + 1) (by omega) (by omega)]
theorem div_zero (s : Int) (hs : s = 0 ∨ s = 1) (hb : b % pw n = 0) (e : Ev (fun k => bodkinlaw02_IntsDivides.l1 k a b n (a % pw n) (b % pw n) (s + 1)) true) :
    Ev (fun k => bodkinlaw02_IntsDivides.l1 k a b n (a % pw n) (b % pw n) s) true := by
  refine ev_next 100 (fun k hk => ?_) e
  conv => lhs; unfold bodkinlaw02_IntsDivides.l1
  rw [if_pos (by omega), wr_i (5 - s) (by omega) (by omega), wr_i (7 - s) (by omega) (by omega), wr_i (s + 1) (by omega) (by omega),
    bin_yes k n (5 - s) a b ⟨h, by omega, by omega, by omega⟩ a0 a1 b0 b1 (by omega), bin_yes k n (7 - s) a b ⟨h, by omega, by omega, by omega⟩ a0 a1 b0 b1 (by omega)]
  simp only [Option.bind_some]
  rw [if_pos hb]
  have e1 : binI n (5 - s) (a % pw n) (b % pw n) = (0, 41) := by rcases hs with rfl | rfl <;> simp [binI, hb]
  have e2 : binI n (7 - s) (a % pw n) (b % pw n) = (0, 41) := by rcases hs with rfl | rfl <;> simp [binI, hb]
  rw [e1, e2]
  rfl
theorem div_plain (hb : b % pw n ≠ 0) (e : Ev (fun k => bodkinlaw02_IntsDivides.l1 k a b n (a % pw n) (b % pw n) 1) true) :
    Ev (fun k => bodkinlaw02_IntsDivides.l1 k a b n (a % pw n) (b % pw n) 0) true := by
  have ca := cut_bounds n a; have cb := cut_bounds n b; have hp := pw_pos n
  refine ev_next 100 (fun k hk => ?_) (div_well n a b 0 (by omega) _ _ e)
  conv => lhs; unfold bodkinlaw02_IntsDivides.l1
  rw [if_pos (by omega), wr_i (5 - 0) (by omega) (by omega), wr_i (7 - 0) (by omega) (by omega),
    bin_yes k n (5 - 0) a b ⟨h, by omega, by omega, by omega⟩ a0 a1 b0 b1 (by omega), bin_yes k n (7 - 0) a b ⟨h, by omega, by omega, by omega⟩ a0 a1 b0 b1 (by omega)]
  simp only [Option.bind_some]
  have e1 : binI n (5 - 0) (a % pw n) (b % pw n) = (a % pw n / (b % pw n), 0) := by simp [binI, hb]
  have e2 : binI n (7 - 0) (a % pw n) (b % pw n) = (a % pw n % (b % pw n), 0) := by simp [binI, hb]
  have q0 : 0 ≤ a % pw n / (b % pw n) := Int.ediv_nonneg ca.1 cb.1
  have q1 : a % pw n / (b % pw n) ≤ a % pw n := Int.ediv_le_self _ ca.1
  have r0 : 0 ≤ a % pw n % (b % pw n) := Int.emod_nonneg _ hb
  have r1 : a % pw n % (b % pw n) < b % pw n := Int.emod_lt_of_pos _ (by omega)
  rw [e1, e2, if_neg hb]
  simp only
  rw [if_neg (by decide), bin_yes k n 3 _ b ⟨h, by omega, by omega, by omega⟩ q0 (by omega) b0 b1 (by omega)]
  simp only [Option.bind_some]
  have e3 : (binI n 3 (a % pw n / (b % pw n) % pw n) (b % pw n)).1 = a % pw n / (b % pw n) % pw n * (b % pw n) % pw n := rfl
  have m := cut_bounds n (a % pw n / (b % pw n) % pw n * (b % pw n))
  rw [e3, bin_yes k n 1 _ _ ⟨h, by omega, by omega, by omega⟩ m.1 (by omega) r0 (by omega) (by omega)]
  simp only [Option.bind_some]
  have e4 : ∀ x y : Int, (binI n 1 x y).1 = (x + y) % pw n := fun _ _ => rfl
  rw [e4, if_neg (by decide), decide_eq_true r1, ← Int.add_emod]
  have e5 : (a % pw n / (b % pw n) % pw n * (b % pw n) % pw n + a % pw n % (b % pw n)) % pw n = a % pw n := by
    rw [Int.emod_eq_of_lt q0 (show a % pw n / (b % pw n) < pw n by omega), Int.emod_add_emod, Int.mul_comm, Int.mul_ediv_add_emod]
    exact cut_cut n a
  rw [e5]
theorem div_signed (hb : b % pw n ≠ 0) (e : Ev (fun k => bodkinlaw02_IntsDivides.l1 k a b n (a % pw n) (b % pw n) 2) true) :
    Ev (fun k => bodkinlaw02_IntsDivides.l1 k a b n (a % pw n) (b % pw n) 1) true := by
  have ca := cut_bounds n a; have cb := cut_bounds n b; have hp := pw_pos n; have pe := pw_even n h
  have sa := sg_range n _ h ca.1 ca.2; have sb := sg_range n _ h cb.1 cb.2
  have hz := sg_zero n _ h cb.1 cb.2
  by_cases ho : sg n (b % pw n) = -1 ∧ a % pw n = pw n / 2
  · have e1 : binI n (5 - 1) (a % pw n) (b % pw n) = (0, 42) := by simp [binI, hb, ho]
    have e2 : binI n (7 - 1) (a % pw n) (b % pw n) = (0, 0) := by
      simp [binI, hb, ho.1]
    refine ev_next 100 (fun k hk => ?_) (ev_next (g := fun k => bodkinlaw02_IntsDivides.j2 k a b n (a % pw n) (b % pw n) 1 false) 0 (fun k _ => ?_) e)
    · conv => lhs; unfold bodkinlaw02_IntsDivides.l1
      rw [if_pos (by omega), wr_i (5 - 1) (by omega) (by omega), wr_i (7 - 1) (by omega) (by omega),
        bin_yes k n (5 - 1) a b ⟨h, by omega, by omega, by omega⟩ a0 a1 b0 b1 (by omega), bin_yes k n (7 - 1) a b ⟨h, by omega, by omega, by omega⟩ a0 a1 b0 b1 (by omega)]
      simp only [Option.bind_some]
      rw [e1, e2, if_neg hb]
      simp only
      rw [if_pos True.intro, if_neg (by decide), if_pos True.intro, if_pos True.intro, signed_ok n b h b0 b1]
      simp only [Option.bind_some]
      rw [ho.1]
      rfl
    · simp only [bodkinlaw02_IntsDivides.j2, Bool.false_eq_true, if_false]
      rw [wr_i (1 + 1) (by omega) (by omega), show (1 : Int) + 1 = 2 from rfl]
  · have e1 : binI n (5 - 1) (a % pw n) (b % pw n) = (Int.tdiv (sg n (a % pw n)) (sg n (b % pw n)) % pw n, 0) := by simp [binI, hb, ho]
    have e2 : binI n (7 - 1) (a % pw n) (b % pw n) = (Int.tmod (sg n (a % pw n)) (sg n (b % pw n)) % pw n, 0) := by simp [binI, hb]
    refine ev_next 100 (fun k hk => ?_) (div_well n a b 1 (by omega) _ _ e)
    obtain ⟨k, rfl⟩ : ∃ m, k = m + 1 := ⟨k - 1, by omega⟩
    conv => lhs; unfold bodkinlaw02_IntsDivides.l1
    rw [if_pos (by omega), wr_i (5 - 1) (by omega) (by omega), wr_i (7 - 1) (by omega) (by omega),
      bin_yes (k + 1) n (5 - 1) a b ⟨h, by omega, by omega, by omega⟩ a0 a1 b0 b1 (by omega), bin_yes (k + 1) n (7 - 1) a b ⟨h, by omega, by omega, by omega⟩ a0 a1 b0 b1 (by omega)]
    simp only [Option.bind_some]
    rw [e1, e2, if_neg hb]
    simp only
    have q := cut_bounds n (Int.tdiv (sg n (a % pw n)) (sg n (b % pw n)))
    have r := cut_bounds n (Int.tmod (sg n (a % pw n)) (sg n (b % pw n)))
    rw [if_neg (by decide), bin_yes (k + 1) n 3 _ b ⟨h, by omega, by omega, by omega⟩ q.1 (by omega) b0 b1 (by omega)]
    simp only [Option.bind_some]
    have e3 : ∀ x y : Int, (binI n 3 x y).1 = x * y % pw n := fun _ _ => rfl
    have m := cut_bounds n (Int.tdiv (sg n (a % pw n)) (sg n (b % pw n)) % pw n % pw n * (b % pw n))
    rw [e3, bin_yes (k + 1) n 1 _ _ ⟨h, by omega, by omega, by omega⟩ m.1 (by omega) r.1 (by omega) (by omega)]
    simp only [Option.bind_some]
    have e4 : ∀ x y : Int, (binI n 1 x y).1 = (x + y) % pw n := fun _ _ => rfl
    rw [e4, if_pos True.intro, un_abs k n _ h r.1 (by omega), un_abs k n b h b0 b1]
    simp only [Option.bind_some]
    have tm : (Int.tmod (sg n (a % pw n)) (sg n (b % pw n))).natAbs < (sg n (b % pw n)).natAbs := by
      rw [Int.natAbs_tmod]
      exact Nat.mod_lt _ (by have : sg n (b % pw n) ≠ 0 := fun x => hb (hz.1 x); omega)
    have tr := tmod_range (sg n (a % pw n)) (sg n (b % pw n)) (pw n / 2) (by omega)
    have ts : sg n (Int.tmod (sg n (a % pw n)) (sg n (b % pw n)) % pw n) = Int.tmod (sg n (a % pw n)) (sg n (b % pw n)) := sg_cut n _ h (by omega) (by omega)
    have e5 : (Int.tdiv (sg n (a % pw n)) (sg n (b % pw n)) % pw n % pw n * (b % pw n) % pw n % pw n + Int.tmod (sg n (a % pw n)) (sg n (b % pw n)) % pw n % pw n) % pw n = a % pw n := by
      have e6 := Int.mul_tdiv_add_tmod (sg n (a % pw n)) (sg n (b % pw n))
      generalize Int.tdiv (sg n (a % pw n)) (sg n (b % pw n)) = Q at *
      generalize Int.tmod (sg n (a % pw n)) (sg n (b % pw n)) = T at *
      rw [Int.emod_emod, Int.emod_emod, Int.emod_emod, ← Int.add_emod, ← Int.emod_add_emod, Int.mul_emod, Int.emod_emod, ← Int.mul_emod, ← sg_mod n _ h cb.1 cb.2, Int.emod_add_emod, Int.mul_comm Q, e6]
      exact sa.2.2
    rw [e5]
    congr 1
    refine decide_eq_true ?_
    rw [cut_cut, ts]
    have sgn : ∀ z : Int, - (pw n / 2) ≤ z → z ≤ pw n / 2 - 1 → (if z ≥ 0 then z % pw n else - (z % pw n) % pw n) = (z.natAbs : Int) := by
      intro z z0 z1
      split
      · rw [Int.emod_eq_of_lt (by omega) (by omega)]; omega
      · rw [show z % pw n = z + pw n from by rw [← Int.add_emod_right]; exact Int.emod_eq_of_lt (by omega) (by omega), show -(z + pw n) = -z - pw n from by omega, Int.sub_emod_right, Int.emod_eq_of_lt (by omega) (by omega)]
        omega
    rw [sgn _ (by omega) (by omega)]
    have e7 := sgn (sg n (b % pw n)) (by omega) (by omega)
    rw [sb.2.2] at e7
    rw [e7]
    omega
theorem div_size (e : Ev (fun k => bodkinlaw02_IntsDivides.l0 k a b (n * 2)) true) : Ev (fun k => bodkinlaw02_IntsDivides.l0 k a b n) true := by
  have hn : n ≤ 64 ∧ 8 ≤ n := by unfold R at h; omega
  have e2 : Ev (fun k => bodkinlaw02_IntsDivides.l1 k a b n (a % pw n) (b % pw n) 2) true := by
    refine ev_next 0 (fun k _ => ?_) e
    conv => lhs; unfold bodkinlaw02_IntsDivides.l1
    rw [if_neg (by omega), wr_i (n * 2) (by omega) (by omega)]
  have e0 : Ev (fun k => bodkinlaw02_IntsDivides.l1 k a b n (a % pw n) (b % pw n) 0) true := by
    by_cases hb : b % pw n = 0
    · have z1 := div_zero n a b h a0 a1 b0 b1 1 (by omega) hb
      have z0 := div_zero n a b h a0 a1 b0 b1 0 (by omega) hb
      rw [show (1 : Int) + 1 = 2 from rfl] at z1
      rw [show (0 : Int) + 1 = 1 from rfl] at z0
      exact z0 (z1 e2)
    · exact div_plain n a b h a0 a1 b0 b1 hb (div_signed n a b h a0 a1 b0 b1 hb e2)
  refine ev_next 100 (fun k hk => ?_) e0
  conv => lhs; unfold bodkinlaw02_IntsDivides.l0
  rw [if_pos (by omega), rCut k n a hk h a0 a1, rCut k n b hk h b0 b1]
  simp only [Option.bind_some]
end
theorem IntsDivides : bodkinlaw02_IntsDivides.Pure := by
  intro a b ha hb
  have ha := bounds_u64 ha
  have hb := bounds_u64 hb
  have e : Ev (fun k => bodkinlaw02_IntsDivides.l0 k a b 128) true := ⟨1, fun k hk => by
    obtain ⟨k, rfl⟩ : ∃ m, k = m + 1 := ⟨k - 1, by omega⟩
    simp only [bodkinlaw02_IntsDivides.l0]
    rw [if_neg (by decide)]⟩
  have s8 := div_size 8 a b (by unfold R; omega) ha.1 (by omega) hb.1 (by omega)
  have s16 := div_size 16 a b (by unfold R; omega) ha.1 (by omega) hb.1 (by omega)
  have s32 := div_size 32 a b (by unfold R; omega) ha.1 (by omega) hb.1 (by omega)
  have s64 := div_size 64 a b (by unfold R; omega) ha.1 (by omega) hb.1 (by omega)
  rw [show (8 : Int) * 2 = 16 from rfl] at s8
  rw [show (16 : Int) * 2 = 32 from rfl] at s16
  rw [show (32 : Int) * 2 = 64 from rfl] at s32
  rw [show (64 : Int) * 2 = 128 from rfl] at s64
  obtain ⟨K, hK⟩ := s8 (s16 (s32 (s64 e)))
  obtain ⟨J, h1, h2⟩ : ∃ J, K ≤ J ∧ 20 ≤ J := ⟨K + 20, by omega, by omega⟩
  refine ⟨J, ?_⟩
  unfold bodkinlaw02_IntsDivides.f
  rw [awake_at J h2]
  simp only [Option.bind_some, if_true]
  exact hK J h1
end Go.Proofs.YtajmjmnlapplaaaDoor.Pure
