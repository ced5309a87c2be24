/-
  The plain law of package ints: what its functions come to, over numbers.
-/
import Derived.Test.YtajmjmnlapplaaaDoorPIntsx10
import Derived.Test.YtajmjmnlapplaaaDoorPIntsx15
import Derived.Laws.BitsAllLaws
import Derived.Laws.BitsLemmas
namespace Go.Proofs.YtajmjmnlapplaaaDoor.Pure
set_option linter.unusedVariables false
set_option linter.unusedSimpArgs false
open Go.RowKit Go.Proofs.YtajmjmnlapplaaaDoor.PInts Go.Proofs.YtajmjmnlapplaaaDoorW.PrintWords Go.Proofs.YtajmjmnlapplaaaDoorW.PrintLast Go.Proofs.YtajmjmnlapplaaaDoorW.PrintMore

def R (n : Int) : Prop := n = 8 ∨ n = 16 ∨ n = 32 ∨ n = 64
def pw (n : Int) : Int := if n = 8 then 256 else if n = 16 then 65536 else if n = 32 then 4294967296 else 18446744073709551616
def sg (n x : Int) : Int := if x < pw n / 2 then x else x - pw n
theorem pw8 : pw 8 = 256 := by decide
theorem pw16 : pw 16 = 65536 := by decide
theorem pw32 : pw 32 = 4294967296 := by decide
theorem pw64 : pw 64 = 18446744073709551616 := by decide

theorem awake_ok : bodkinlaw02_awake.f 20 = some true := by decide +kernel

theorem right_yes (n : Int) (h : R n) : ints_right.f n = some true := by
  rcases h with rfl | rfl | rfl | rfl <;> rfl
theorem right_no (n : Int) (h : ¬ R n) : ints_right.f n = some false := by
  unfold R at h
  unfold ints_right.f
  rw [if_neg (by omega), if_neg (by omega), if_neg (by omega)]
  congr 1
  rw [beq_eq_false_iff_ne]
  omega
theorem mask_ok (n : Int) (h : R n) : ints_mask.f n = some (pw n - 1) := by
  rcases h with rfl | rfl | rfl | rfl <;> decide +kernel
theorem shl_u64 (x : Int) (k : Int) : shl .u64 x k = x * 2 ^ min k.toNat 64 % 18446744073709551616 := by unfold shl; rw [IntKind.wrap_u64]; rfl
theorem shr_any (i : IntKind) (x : Int) (k : Int) : shr i x k = x / 2 ^ min k.toNat i.bits := rfl
theorem signed_ok (n a : Int) (h : R n) (h0 : 0 ≤ a) (h1 : a < 18446744073709551616) : ints_Signed.f n a = some (sg n (a % pw n)) := by
  unfold ints_Signed.f
  rw [right_yes n h]
  simp only [Option.bind_some, if_true]
  rcases h with rfl | rfl | rfl | rfl
  · rw [show IntKind.u64.wrap (64 - IntKind.u64.wrap 8) = 56 from by decide +kernel, if_pos (by decide), shl_u64, shr_any, show min (56 : Int).toNat 64 = 56 from by decide, show min (56 : Int).toNat IntKind.i64.bits = 56 from by decide +kernel]
    unfold wrap64 sg
    rw [pw8]
    congr 1
    split <;> omega
  · rw [show IntKind.u64.wrap (64 - IntKind.u64.wrap 16) = 48 from by decide +kernel, if_pos (by decide), shl_u64, shr_any, show min (48 : Int).toNat 64 = 48 from by decide, show min (48 : Int).toNat IntKind.i64.bits = 48 from by decide +kernel]
    unfold wrap64 sg
    rw [pw16]
    congr 1
    split <;> omega
  · rw [show IntKind.u64.wrap (64 - IntKind.u64.wrap 32) = 32 from by decide +kernel, if_pos (by decide), shl_u64, shr_any, show min (32 : Int).toNat 64 = 32 from by decide, show min (32 : Int).toNat IntKind.i64.bits = 32 from by decide +kernel]
    unfold wrap64 sg
    rw [pw32]
    congr 1
    split <;> omega
  · rw [show IntKind.u64.wrap (64 - IntKind.u64.wrap 64) = 0 from by decide +kernel, if_pos (by decide), shl_u64, shr_any, show min (0 : Int).toNat 64 = 0 from by decide, show min (0 : Int).toNat IntKind.i64.bits = 0 from by decide +kernel]
    unfold wrap64 sg
    rw [pw64]
    congr 1
    split <;> omega
theorem signed_no (n a : Int) (h : ¬ R n) : ints_Signed.f n a = some 0 := by
  unfold ints_Signed.f
  rw [right_no n h]
  rfl
theorem and_mask (n a : Int) (h : R n) (h0 : 0 ≤ a) (h1 : a < 18446744073709551616) : Go.bits .and .u64 a (pw n - 1) = a % pw n := by
  have hk : ∀ m : Int, 0 ≤ m → m < 2 ^ 64 → IntKind.u64.wrap m = m := fun m a b => IntWalk.u64_in m (by omega)
  rcases h with rfl | rfl | rfl | rfl
  · exact bits_mask .u64 64 (by decide) hk 8 (by decide) a h0 (by omega)
  · exact bits_mask .u64 64 (by decide) hk 16 (by decide) a h0 (by omega)
  · exact bits_mask .u64 64 (by decide) hk 32 (by decide) a h0 (by omega)
  · exact bits_mask .u64 64 (by decide) hk 64 (by decide) a h0 (by omega)
theorem pw_pos (n : Int) : 256 ≤ pw n ∧ pw n ≤ 18446744073709551616 := by unfold pw; split <;> (try split) <;> (try split) <;> omega
theorem cut_bounds (n a : Int) : 0 ≤ a % pw n ∧ a % pw n < pw n := by
  have := pw_pos n
  exact ⟨Int.emod_nonneg _ (by omega), Int.emod_lt_of_pos _ (by omega)⟩
theorem cut_cut (n a : Int) : a % pw n % pw n = a % pw n := by
  have := cut_bounds n a
  exact Int.emod_eq_of_lt this.1 this.2
/-- How two stand, by the operation's number. -/
def relI (n op a b : Int) : Bool :=
  if op = 1 then a == b else if op = 2 then a != b else if op = 3 then decide (sg n a < sg n b) else if op = 4 then decide (a < b) else
  if op = 5 then decide (sg n a > sg n b) else if op = 6 then decide (a > b) else if op = 7 then decide (sg n a ≤ sg n b) else if op = 8 then decide (a ≤ b) else
  if op = 9 then decide (sg n a ≥ sg n b) else decide (a ≥ b)
theorem rel_yes (k : Nat) (n op a b : Int) (h : R n) (h1 : 1 ≤ op) (h2 : op ≤ 10) (a0 : 0 ≤ a) (a1 : a < 18446744073709551616) (b0 : 0 ≤ b) (b1 : b < 18446744073709551616) :
    ints_Rel.f (k + 1) n op a b = some (relI n op (a % pw n) (b % pw n), 0) := by
  have hp := pw_pos n
  have ca := cut_bounds n a
  have cb := cut_bounds n b
  unfold ints_Rel.f
  rw [right_yes n h]
  simp only [Option.bind_some, if_true]
  rw [if_neg (by omega), decide_eq_false (show ¬ op > 10 by omega)]
  simp only [ints_Rel.j0]
  rw [mask_ok n h]
  simp only [Option.bind_some, Bool.false_eq_true, if_false]
  rw [and_mask n a h a0 a1, and_mask n b h b0 b1, signed_ok n _ h ca.1 (by omega), signed_ok n _ h cb.1 (by omega), cut_cut, cut_cut]
  simp only [Option.bind_some]
  unfold relI
  split
  · rfl
  split
  · rfl
  split
  · rfl
  split
  · rfl
  split
  · rfl
  split
  · rfl
  split
  · rfl
  split
  · rfl
  split
  · rfl
  rfl
theorem rel_no (k : Nat) (n op a b : Int) (h : ¬ (R n ∧ 1 ≤ op ∧ op ≤ 10)) : ints_Rel.f (k + 1) n op a b = some (false, 1) := by
  unfold ints_Rel.f
  by_cases hR : R n
  · rw [right_yes n hR]
    simp only [Option.bind_some, if_true]
    by_cases h1 : op < 1
    · rw [if_pos h1]; simp [ints_Rel.j0]
    · rw [if_neg h1, decide_eq_true (show op > 10 from Int.not_le.1 fun h2 => h ⟨hR, by omega, h2⟩)]; simp [ints_Rel.j0]
  · rw [right_no n hR]
    simp [ints_Rel.j0]
end Go.Proofs.YtajmjmnlapplaaaDoor.Pure
