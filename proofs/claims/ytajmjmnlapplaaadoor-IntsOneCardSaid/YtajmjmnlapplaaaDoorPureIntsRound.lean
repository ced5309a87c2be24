/-
  The plain law of IntsRound: what is moved round comes back; two opposites are the number; as many bits.
-/
import Derived.Test.YtajmjmnlapplaaaDoorPureP
import Derived.Test.YtajmjmnlapplaaaDoorPIntsx35
import Derived.OpenShut
namespace Go.Proofs.YtajmjmnlapplaaaDoor.Pure
set_option linter.unusedVariables false
set_option linter.unusedSimpArgs false
open Go.RowKit Go.Proofs.YtajmjmnlapplaaaDoor.PInts Go.Proofs.YtajmjmnlapplaaaDoorW.PrintWords Go.Proofs.YtajmjmnlapplaaaDoorW.PrintLast

theorem rev_next {g f : Nat → Option Bool} {r : Bool} (K : Nat) (h : ∀ k, K ≤ k → g (k + 1) = f k) (e : Ev f r) : Ev g r := by
  obtain ⟨J, hJ⟩ := e
  refine ⟨K + J + 1, fun k hk => ?_⟩
  obtain ⟨k, rfl⟩ : ∃ m, k = m + 1 := ⟨k - 1, by omega⟩
  rw [h k (by omega)]
  exact hJ k (by omega)
theorem rot_nat (n : Int) (h : R n) (X e : Nat) (he : (e : Int) ≤ n) : rotI n X e = ((ro (n.toNat - e) e X : Nat) : Int) := by
  unfold rotI ro
  rw [pw_pow n h, show ((e : Int)).toNat = e from rfl, show (n - (e : Int)).toNat = n.toNat - e from by omega, show n.toNat - e + e = n.toNat from by omega]
  push_cast
  rfl
theorem pw_nat (n : Int) (h : R n) : pw n = ((2 ^ n.toNat : Nat) : Int) := by
  rw [pw_pow n h]
  push_cast
  rfl
theorem pc_all (n : Int) (h : R n) (x : Nat) (hx : x < 2 ^ n.toNat) : pc 64 x = pc n.toNat x := by
  have := pc_wide n.toNat (64 - n.toNat) x hx
  rw [show n.toNat + (64 - n.toNat) = 64 from by unfold R at h; omega] at this
  exact this
theorem rot_all (n A K : Int) (h : R n) (A0 : 0 ≤ A) (A1 : A < pw n) (k0 : 0 ≤ K) (k1 : K < n) :
    0 ≤ rotI n A K ∧ rotI n A K < pw n ∧ rotI n (rotI n A K) ((n - K) % n) = A ∧ pc 64 (rotI n A K).toNat = pc 64 A.toNat := by
  obtain ⟨X, rfl⟩ := Int.eq_ofNat_of_zero_le A0
  obtain ⟨e, rfl⟩ := Int.eq_ofNat_of_zero_le k0
  have hn : 8 ≤ n ∧ n ≤ 64 := by unfold R at h; omega
  have X1 : X < 2 ^ n.toNat := by rw [pw_nat n h] at A1; exact Int.ofNat_lt.1 A1
  have X2 : X < 2 ^ (n.toNat - e + e) := by rw [show n.toNat - e + e = n.toNat from by omega]; exact X1
  have hl := ro_lt (n.toNat - e) e X X2
  rw [show e + (n.toNat - e) = n.toNat from by omega] at hl
  have hb := ro_back (n.toNat - e) e X X2
  have hp := ro_pc (n.toNat - e) e X X2
  rw [show n.toNat - e + e = n.toNat from by omega] at hp
  rw [rot_nat n h X e (by omega)]
  refine ⟨by omega, by rw [pw_nat n h]; exact Int.ofNat_lt.2 hl, ?_, ?_⟩
  · by_cases hz : e = 0
    · subst hz
      have r0 : ∀ x, x < 2 ^ n.toNat → ro (n.toNat - 0) 0 x = x := by
        intro x hx
        rw [Nat.sub_zero, ro_eq, Nat.div_eq_of_lt hx, Nat.mod_eq_of_lt hx]
        omega
      rw [r0 X X1, show (n - ((0 : Nat) : Int)) % n = ((0 : Nat) : Int) from by simp, rot_nat n h X 0 (by omega), r0 X X1]
    · rw [Int.emod_eq_of_lt (show 0 ≤ n - (e : Int) by omega) (by omega), show n - (e : Int) = ((n.toNat - e : Nat) : Int) from by omega, rot_nat n h _ _ (by omega), show n.toNat - (n.toNat - e) = e from by omega, hb]
  · rw [show ((ro (n.toNat - e) e X : Nat) : Int).toNat = ro (n.toNat - e) e X from rfl, show ((X : Nat) : Int).toNat = X from rfl, pc_all n h _ hl, pc_all n h _ X1, hp]
theorem neg_neg_cut (n A : Int) (h : R n) (A0 : 0 ≤ A) (A1 : A < pw n) : (- (-A % pw n % pw n)) % pw n = A ∧ (A + -A % pw n % pw n) % pw n = 0 := by
  rcases h with rfl | rfl | rfl | rfl
  · rw [show pw 8 = 256 from rfl] at *; omega
  · rw [show pw 16 = 65536 from rfl] at *; omega
  · rw [show pw 32 = 4294967296 from rfl] at *; omega
  · rw [show pw 64 = 18446744073709551616 from rfl] at *; omega
section
variable (n a b : Int) (h : R n) (a0 : 0 ≤ a) (a1 : a < 18446744073709551616) (b0 : 0 ≤ b) (b1 : b < 18446744073709551616)
include h a0 a1
omit h a0 a1 in
theorem ones_at (A : Int) (h0 : 0 ≤ A) (h1 : A < 18446744073709551616) (P : Nat) (hP : pc 64 A.toNat = P) : bits_OnesCount64.f A = some (P : Int) := by
  obtain ⟨X, rfl⟩ := Int.eq_ofNat_of_zero_le h0
  subst hP
  exact ones X (by omega)
/-- The operation is a variable here, so that nothing is tempted to reckon the branches behind (a shift by 2 to the 64th). -/
theorem un_pop (op : Int) (ho : op = 3) (k P : Nat) (hc : P ≤ 64) (o : bits_OnesCount64.f (a % pw n) = some (P : Int)) : ints_Un.f (k + 1) n op a = some ((P : Int), 0) := by
  have hw : IntKind.u64.wrap (P : Int) = (P : Int) := wr_u _ (by clear o; omega) (by clear o; omega)
  unfold ints_Un.f
  rw [right_yes n h]
  simp only [Option.bind_some, if_true]
  rw [if_neg (by omega), show decide (op > 8) = false from decide_eq_false (by omega)]
  simp only [ints_Un.j0]
  rw [mask_ok n h]
  simp only [Option.bind_some, Bool.false_eq_true, if_false]
  rw [if_neg (show ¬ op = 1 by omega), if_neg (show ¬ op = 2 by omega), if_pos ho, and_mask n a h a0 a1, o]
  simp only [Option.bind_some]
  rw [hw]
include b0 b1
theorem round_size (e : Ev (fun k => bodkinlaw02_IntsRound.l0 k a b (n * 2)) true) : Ev (fun k => bodkinlaw02_IntsRound.l0 k a b n) true := by
  have hn : n ≤ 64 ∧ 8 ≤ n := by unfold R at h; omega
  have ca := cut_bounds n a; have hp := pw_pos n
  have cb := cut_bounds n b
  have r := rot_all n (a % pw n) (b % pw n % n) h ca.1 ca.2 (Int.emod_nonneg _ (by omega)) (Int.emod_lt_of_pos _ (by omega))
  have g := neg_neg_cut n (a % pw n) h ca.1 ca.2
  have cn := cut_bounds n (-(a % pw n))
  refine rev_next (f := fun k => bodkinlaw02_IntsRound.j1 k a b n false) 100 (fun k hk => ?_) (rev_next 0 (fun k _ => ?_) e)
  · obtain ⟨k, rfl⟩ : ∃ m, k = m + 1 := ⟨k - 1, by omega⟩
    conv => lhs; unfold bodkinlaw02_IntsRound.l0
    rw [if_pos (by omega), rCut (k + 1) n a hk h a0 a1, bin_yes (k + 1) n 14 a b ⟨h, by omega, by omega, by omega⟩ a0 a1 b0 b1 (by omega)]
    simp only [Option.bind_some]
    have e14 : (binI n 14 (a % pw n) (b % pw n)).1 = rotI n (a % pw n) (b % pw n % n) := rfl
    rw [e14]
    obtain ⟨P, hP⟩ : ∃ P, pc 64 (a % pw n).toNat = P := ⟨_, rfl⟩
    have hc : P ≤ 64 := by rw [← hP]; exact pc_le 64 _
    have r4 := r.2.2.2.trans hP
    generalize rotI n (a % pw n) (b % pw n % n) = L at *
    rw [bin_yes (k + 1) n 15 L b ⟨h, by omega, by omega, by omega⟩ r.1 (by omega) b0 b1 (by omega), un_neg k n a h a0 a1]
    simp only [Option.bind_some]
    rw [un_neg k n _ h cn.1 (by omega), bin_yes (k + 1) n 1 a _ ⟨h, by omega, by omega, by omega⟩ a0 a1 cn.1 (by omega) (by omega), un_pop n a h a0 a1 3 rfl k P hc (ones_at _ ca.1 (by omega) P hP), un_pop n L h r.1 (by omega) 3 rfl k P hc (by rw [Int.emod_eq_of_lt r.1 r.2.1]; exact ones_at _ r.1 (by omega) P r4)]
    simp only [Option.bind_some]
    have e15 : (binI n 15 (L % pw n) (b % pw n)).1 = rotI n (L % pw n) ((n - b % pw n % n) % n) := rfl
    have e1 : (binI n 1 (a % pw n) (-(a % pw n) % pw n % pw n)).1 = (a % pw n + -(a % pw n) % pw n % pw n) % pw n := rfl
    rw [e15, e1, Int.emod_eq_of_lt r.1 r.2.1, r.2.2.1, g.1, g.2, if_pos rfl, if_pos rfl, if_pos rfl]
    simp
  · simp only [bodkinlaw02_IntsRound.j1, Bool.false_eq_true, if_false]
    rw [wr_i (n * 2) (by omega) (by omega)]
end
theorem IntsRound : bodkinlaw02_IntsRound.Pure := by
  intro a b ha hb
  have ha := bounds_u64 ha
  have hb := bounds_u64 hb
  have e : Ev (fun k => bodkinlaw02_IntsRound.l0 k a b 128) true := ⟨1, fun k hk => by
    obtain ⟨k, rfl⟩ : ∃ m, k = m + 1 := ⟨k - 1, by omega⟩
    simp only [bodkinlaw02_IntsRound.l0]
    rw [if_neg (by decide)]⟩
  have s8 := round_size 8 a b (by unfold R; omega) ha.1 (by omega) hb.1 (by omega)
  have s16 := round_size 16 a b (by unfold R; omega) ha.1 (by omega) hb.1 (by omega)
  have s32 := round_size 32 a b (by unfold R; omega) ha.1 (by omega) hb.1 (by omega)
  have s64 := round_size 64 a b (by unfold R; omega) ha.1 (by omega) hb.1 (by omega)
  rw [show (8 : Int) * 2 = 16 from rfl] at s8
  rw [show (16 : Int) * 2 = 32 from rfl] at s16
  rw [show (32 : Int) * 2 = 64 from rfl] at s32
  rw [show (64 : Int) * 2 = 128 from rfl] at s64
  obtain ⟨K, hK⟩ := s8 (s16 (s32 (s64 e)))
  obtain ⟨J, h1, h2⟩ : ∃ J, K ≤ J ∧ 20 ≤ J := ⟨K + 20, by omega, by omega⟩
  refine ⟨J, ?_⟩
  unfold bodkinlaw02_IntsRound.f
  rw [awake_at J h2]
  simp only [Option.bind_some, if_true]
  exact hK J h1
end Go.Proofs.YtajmjmnlapplaaaDoor.Pure
