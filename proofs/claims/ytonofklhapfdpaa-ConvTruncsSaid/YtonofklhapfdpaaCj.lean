/-
  What math.Trunc makes of a float: the whole number truncT. Plain law.
-/
import Derived.Test.YtonofklhapfdpaaCi
namespace Go.Proofs.Ytonofklhapfdpaa.Pure
set_option linter.unusedVariables false
set_option linter.unusedSimpArgs false
open Go.RowKit Go.Proofs.Ytonofklhapfdpaa.PConv Go.Proofs.Ytonofklhapfdpaa.Fl Go.Proofs.Ytonofklhapfdpaa.Ref Go.Proofs.YtonofklhapfdpaaW.PrintWords Go.Proofs.YtonofklhapfdpaaW.PrintLast
open Ieee (Datum)

theorem cut_gen (m k : Nat) (l : Int) : (m * 2 ^ k) <<< l.toNat / 2 ^ (-l).toNat = if l + (k : Int) < 0 then m / 2 ^ (-(l + (k : Int))).toNat else m * 2 ^ (l + (k : Int)).toNat := by
  by_cases c : l + (k : Int) < 0
  · rw [if_pos c]
    have e : l.toNat = 0 := by omega
    have e2 : (-l).toNat = (-(l + (k : Int))).toNat + k := by omega
    rw [e, Nat.shiftLeft_zero, e2, Nat.pow_add, Nat.mul_comm m, Nat.mul_comm (2 ^ _) (2 ^ k), Nat.mul_div_mul_left _ _ (Nat.two_pow_pos _)]
  · rw [if_neg c]
    exact whole_cut m k _ l (by omega)

theorem trunc_read (x m k : Nat) (s : Bool) (l p : Int) (h : Ieee.double.read x = .number s (m * 2 ^ k) l) (hl : l + (k : Int) = p) :
    Ieee.double.write ((Ieee.double.read x).integral (wayOf 6)) = Ieee.double.nearest s (if p < 0 then m / 2 ^ (-p).toNat else m * 2 ^ p.toNat) 0 := by
  rw [h]
  have e : wayOf 6 = .zero := by decide
  rw [e]
  show Ieee.double.nearest s (Ieee.Toward.zero.cut s ((m * 2 ^ k) <<< l.toNat) (-l).toNat) 0 = _
  rw [cut_zero, cut_gen, hl]

theorem trunc_T (s : Bool) (m : Nat) (p : Int) (hm : m < 9007199254740992) (hp : p ≤ 971) :
    IsT (Ieee.double.nearest s (if p < 0 then m / 2 ^ (-p).toNat else m * 2 ^ p.toNat) 0) s (if p < 0 then m / 2 ^ (-p).toNat else m * 2 ^ p.toNat) := by
  by_cases c : p < 0
  · rw [if_pos c]
    have := t_near s (m / 2 ^ (-p).toNat) 0 (Nat.lt_of_le_of_lt (Nat.div_le_self _ _) hm) (by decide)
    rw [Nat.pow_zero, Nat.mul_one] at this
    exact this
  · rw [if_neg c, nearest_scale]
    have := t_near s m p.toNat hm (by omega)
    have e : (0 : Int) + (p.toNat : Nat) = ((p.toNat : Nat) : Int) := by omega
    rw [e]; exact this

theorem pl_le (fr : Int) (h : Rt fr) (r : Nat) (hr : r < (fmtOf fr).infRung) : (fmtOf fr).leastPlace + (plOf (fmtOf fr) r : Int) ≤ 971 ∧ magOf (fmtOf fr) r < 9007199254740992 := by
  have hs : ∀ r, r < Ieee.single.infRung → Ieee.single.leastPlace + (plOf Ieee.single r : Int) ≤ 971 ∧ magOf Ieee.single r < 9007199254740992 := by
    intro r hr
    have hm := mag_lt Ieee.single r
    unfold plOf
    rw [s_inf] at hr
    rw [s_bin] at hm
    rw [s_least, s_bin]
    omega
  have hd : ∀ r, r < Ieee.double.infRung → Ieee.double.leastPlace + (plOf Ieee.double r : Int) ≤ 971 ∧ magOf Ieee.double r < 9007199254740992 := by
    intro r hr
    have hm := mag_lt Ieee.double r
    unfold plOf
    rw [d_inf] at hr
    rw [d_bin] at hm
    rw [d_least, d_bin]
    omega
  rcases h with rfl | rfl
  · exact hs r hr
  · exact hd r hr

/-- What math.Trunc makes of a number. -/
theorem trunc_val {fr : Int} (h : Rt fr) {a : Int} {x : Nat} (hv : Val fr a x) (hr : rungOf (fmtOf fr) (wOf fr a) < (fmtOf fr).infRung) :
    ∃ v, mfun 6 x = some v ∧ IsT v (negOf (fmtOf fr) (wOf fr a)) (truncT (fmtOf fr) (rungOf (fmtOf fr) (wOf fr a))) := by
  have hn := val_num hv (Nat.le_of_lt hr)
  have hp := pl_le fr h _ hr
  refine ⟨_, mfun_int 6 x (by decide) hn.2.1, ?_⟩
  have key : ∃ m k : Nat, ∃ l : Int, Ieee.double.read x = .number (negOf (fmtOf fr) (wOf fr a)) (m * 2 ^ k) l ∧ l + (k : Int) = (fmtOf fr).leastPlace + (plOf (fmtOf fr) (rungOf (fmtOf fr) (wOf fr a)) : Int) ∧ m = magOf (fmtOf fr) (rungOf (fmtOf fr) (wOf fr a)) := by
    rcases h with rfl | rfl
    · obtain ⟨k, q, a1, a2, _⟩ := wd_fin (s32 a) hr
      rw [hn.1 rfl]
      exact ⟨_, k, q, a2, a1, rfl⟩
    · unfold Val at hv
      rw [if_neg (by decide)] at hv
      have hr' : rungOf Ieee.double a.toNat < Ieee.double.infRung := hr
      show ∃ m k : Nat, ∃ l : Int, Ieee.double.read x = .number (negOf Ieee.double a.toNat) (m * 2 ^ k) l ∧ l + (k : Int) = Ieee.double.leastPlace + (plOf Ieee.double (rungOf Ieee.double a.toNat) : Int) ∧ m = magOf Ieee.double (rungOf Ieee.double a.toNat)
      rw [hv]
      exact ⟨_, 0, _, by rw [read_num Ieee.double _ hr', Nat.pow_zero, Nat.mul_one], by omega, rfl⟩
  obtain ⟨m, k, l, k1, k2, k3⟩ := key
  rw [trunc_read x m k _ l _ k1 k2, k3]
  unfold truncT
  exact trunc_T _ _ _ hp.2 hp.1
/-- Of an infinity, itself. -/
theorem trunc_inf {fr : Int} (h : Rt fr) {a : Int} {x : Nat} (hv : Val fr a x) (hr : rungOf (fmtOf fr) (wOf fr a) = (fmtOf fr).infRung) :
    ∃ v, mfun 6 x = some v ∧ Ieee.double.read v = .infinity (negOf (fmtOf fr) (wOf fr a)) := by
  have hn := val_num hv (Nat.le_of_eq hr)
  refine ⟨_, mfun_int 6 x (by decide) hn.2.1, ?_⟩
  have key : Ieee.double.read x = .infinity (negOf (fmtOf fr) (wOf fr a)) := by
    rcases h with rfl | rfl
    · rw [hn.1 rfl]
      have hi : wd (s32 a) = Ieee.double.word (negOf Ieee.single (s32 a)) Ieee.double.infRung := by
        unfold wd; rw [read_inf Ieee.single (s32 a) bin_single hr]; rfl
      rw [hi]
      show _ = Datum.infinity (negOf Ieee.single (s32 a))
      cases negOf Ieee.single (s32 a) <;> decide +kernel
    · unfold Val at hv
      rw [if_neg (by decide)] at hv
      rw [hv]
      show _ = Datum.infinity (negOf Ieee.double a.toNat)
      exact read_inf Ieee.double _ bin_double hr
  rw [key]
  show Ieee.double.read (Ieee.double.word _ _) = _
  cases negOf (fmtOf fr) (wOf fr a) <;> decide +kernel
end Go.Proofs.Ytonofklhapfdpaa.Pure
