/-
  The program's Promote and Demote, in closed form: what is promoted is demoted to what it was. No condition but that a word is one.
-/
import Derived.Test.YtonofklhapfdpaaCf
namespace Go.Proofs.Ytonofklhapfdpaa.Pure
set_option linter.unusedVariables false
set_option linter.unusedSimpArgs false
open Go.RowKit Go.Proofs.Ytonofklhapfdpaa.PConv Go.Proofs.Ytonofklhapfdpaa.Fl Go.Proofs.YtonofklhapfdpaaW.PrintWords Go.Proofs.YtonofklhapfdpaaW.PrintLast

def resR (fr dst : Int) (a : Nat) : Int :=
  if nanW (fmtOf fr) (wOf fr a) = true then canon dst
  else if rungOf (fmtOf fr) (wOf fr a) = (fmtOf fr).infRung then ((fmtOf dst).word (negOf (fmtOf fr) (wOf fr a)) (fmtOf dst).infRung : Nat)
  else ((fmtOf dst).nearest (negOf (fmtOf fr) (wOf fr a)) (magOf (fmtOf fr) (rungOf (fmtOf fr) (wOf fr a))) ((fmtOf fr).leastPlace + (plOf (fmtOf fr) (rungOf (fmtOf fr) (wOf fr a)) : Int)) : Nat)
theorem nearest_twice (f : Ieee.Format) (neg : Bool) (m : Nat) (e : Int) : f.nearest neg (2 * m + (false : Bool).toNat) (e - 1) = f.nearest neg m e := by
  have h := nearest_scale f neg m 1 (e - 1)
  rw [show m * 2 ^ 1 = 2 * m + (false : Bool).toNat from by simp; omega, show e - 1 + ((1 : Nat) : Int) = e from by omega] at h
  exact h
theorem c_RoundE (n : Int) (h : Rt n) (neg : Bool) (m : Nat) (hm : m < 18446744073709551616) (e : Int) (k : Nat) (hk : 4 ≤ k) : floats_Round.f k n neg m e false = some ((((fmtOf n).nearest neg m e : Nat) : Int), 0) := by
  rw [c_Round n neg m hm e false k hk]
  unfold roundF
  rw [if_neg (fun x => x.elim (fun y => by rcases h with rfl | rfl <;> omega) (fun y => by cases y.1)), nearest_twice]
theorem neg_bit (fr : Int) (hf : Rt fr) (a : Nat) (ha : a < 18446744073709551616) : (Go.bits .and .u64 (shr .u64 (a : Int) (IntKind.u64.wrap (wrap64 (fr - 1)))) 1 == 1) = negOf (fmtOf fr) (wOf fr (a : Int)) := by
  obtain ⟨p, q, f, S⟩ := sz fr hf
  rw [S.fm, ← (S.same a ha).2]
  have h1 : ∀ x : Nat, x < 18446744073709551616 → (Go.bits .and .u64 (x : Int) 1 == 1) = (x % 2 == 1) := by
    intro x hx
    have := odd_bit x hx
    rw [Bool.eq_iff_iff, beq_iff_eq, this, beq_iff_eq]
  unfold negOf
  rcases hf with rfl | rfl
  · have e : IntKind.u64.wrap (wrap64 (32 - 1)) = ((31 : Nat) : Int) := by rw [IntKind.wrap_u64]; unfold wrap64; omega
    have hfs : f = Ieee.single := by rw [← S.fm]; rfl
    rw [e, shr_nat a 31 (by decide), h1 _ (by omega), hfs, s_sgn]
  · have e : IntKind.u64.wrap (wrap64 (64 - 1)) = ((63 : Nat) : Int) := by rw [IntKind.wrap_u64]; unfold wrap64; omega
    have hfs : f = Ieee.double := by rw [← S.fm]; rfl
    rw [e, shr_nat a 63 (by decide), h1 _ (by omega), hfs, d_sgn]
theorem c_resized (fr dst : Int) (hf : Rt fr) (ht : Rt dst) (a : Nat) (ha : a < 18446744073709551616) (k : Nat) (hk : 4 ≤ k) : conv_resized.f k fr dst a = some (resR fr dst a) := by
  obtain ⟨p, q, f, S⟩ := sz fr hf
  obtain ⟨p2, q2, f2, S2⟩ := sz dst ht
  obtain ⟨w1, w2, w3, w4, w5, w6, w7, w8, w9, w10, w11, w12⟩ := c_w S.pq
  have kg := kind_ge fr hf a
  obtain ⟨kd, hkd⟩ : ∃ kd, kd = kindF fr (a : Int) := ⟨_, rfl⟩
  rw [← hkd] at kg
  unfold conv_resized.f resR
  rw [c_Parts fr a ha k (by omega)]
  simp only [Option.bind_some]
  by_cases c4 : kd = 4
  · have hp : partsF fr a = (false, 0, 0, 1) := by unfold partsF; rw [if_neg (by rw [← hkd]; omega)]
    rw [hp, if_neg (by decide), c_Kind fr a ha, ← hkd]
    simp only [Option.bind_some]
    have hc : floats_Canonical.f dst = some (canon dst) := by
      rw [c_Canonical dst, if_pos (show dst = 32 ∨ dst = 64 from ht)]
    rw [if_pos c4, hc, if_pos (kg.1.1 c4)]
    rfl
  · have hn : ¬ nanW (fmtOf fr) (wOf fr (a : Int)) = true := fun x => c4 (kg.1.2 x)
    rw [if_neg hn]
    by_cases c3 : kd = 3
    · have hi := kg.2.1 c3
      have hp : partsF fr a = (false, 0, 0, 1) := by unfold partsF; rw [if_neg (by rw [← hkd]; omega)]
      rw [hp, if_neg (by decide), c_Kind fr a ha, ← hkd]
      simp only [Option.bind_some]
      rw [if_neg c4, if_pos (u64_pos _), neg_bit fr hf a ha, if_pos hi]
      have hr := c_RoundE dst ht (negOf (fmtOf fr) (wOf fr (a : Int))) 1 (by decide) 4000 k hk
      have hb : (fmtOf dst).nearest (negOf (fmtOf fr) (wOf fr (a : Int))) 1 4000 = (fmtOf dst).word (negOf (fmtOf fr) (wOf fr (a : Int))) (fmtOf dst).infRung := by
        refine nearest_big _ _ 1 4000 (by decide) ?_
        unfold fmtOf
        split
        · rw [s_least]; decide
        · rw [d_least]; decide
      rw [hb] at hr
      rw [show ((1 : Nat) : Int) = 1 from rfl] at hr
      rw [hr]
      rfl
    · have hor := kg.2.2 c4 c3
      have hnum := kind_num S a (by rw [← hkd]; exact hor)
      have hp : partsF fr a = (negOf f (wOf fr (a : Int)), (magOf f (rungOf f (wOf fr (a : Int))) : Int), f.leastPlace + (plOf f (rungOf f (wOf fr (a : Int))) : Int), 0) := by
        unfold partsF
        rw [if_pos (by rw [← hkd]; exact hor), S.fm]
      have hmag := mag_lt f (rungOf f (wOf fr (a : Int)))
      rw [hp, if_pos rfl, S.fm, if_neg (by omega)]
      have hr := c_RoundE dst ht (negOf f (wOf fr (a : Int))) (magOf f (rungOf f (wOf fr (a : Int)))) (by omega) (f.leastPlace + (plOf f (rungOf f (wOf fr (a : Int))) : Int)) k hk
      rw [hr]
      rfl
theorem near_lt (f : Ieee.Format) (neg : Bool) (m : Nat) (p : Int) : f.nearest neg m p < 2 * f.signWeight := by
  have hl := inf_lt f
  have hb : 0 < f.binade := pw_pos _
  have hz : ∀ r, r ≤ f.infRung → f.word neg r < 2 * f.signWeight := by
    intro r hr
    unfold Ieee.Format.word
    split <;> omega
  by_cases h : m = 0
  · subst h; rw [nearest_zero]; exact hz 0 (Nat.zero_le _)
  · rw [nearest_eq f neg m p h]; exact hz _ (Nat.min_le_right _ _)
theorem single_lt (a : Nat) (h : a < 4294967296) : wOf 32 (a : Int) = a ∧ a < 2 * Ieee.single.signWeight := by
  refine ⟨by unfold wOf; rw [if_pos rfl]; omega, by rw [s_sgn]; omega⟩
/-- What is promoted is demoted to what it was. -/
theorem back_float (a : Nat) (h : a < 4294967296) (P : Int) (hP : P = resR 32 64 a) : ∃ x : Nat, P = (x : Int) ∧ x < 18446744073709551616 ∧ resR 64 32 x = (if nanW Ieee.single a = true then canon 32 else (a : Int)) := by
  have hw := single_lt a h
  have f32 : fmtOf 32 = Ieee.single := rfl
  have f64 : fmtOf 64 = Ieee.double := rfl
  have w64 : ∀ x : Nat, wOf 64 (x : Int) = x := fun x => by unfold wOf; rw [if_neg (by decide)]; omega
  rw [hP]
  unfold resR
  rw [f32, f64, hw.1]
  have hinf := inf_lt Ieee.double
  have hb : 0 < Ieee.double.binade := pw_pos _
  by_cases hn : nanW Ieee.single a = true
  · rw [if_pos hn, if_pos hn]
    refine ⟨9221120237041090560, rfl, by decide, ?_⟩
    rw [w64, if_pos (by decide +kernel)]
  · rw [if_neg hn, if_neg hn]
    by_cases hi : rungOf Ieee.single a = Ieee.single.infRung
    · rw [if_pos hi]
      have hwr := word_rung Ieee.double (negOf Ieee.single a) Ieee.double.infRung (Nat.le_refl _)
      refine ⟨_, rfl, ?_, ?_⟩
      · unfold Ieee.Format.word; rw [d_sgn, d_inf]; split <;> omega
      · rw [w64, if_neg (by unfold nanW; rw [hwr.1]; simp), if_pos hwr.1, hwr.2]
        congr 1
        rw [← hi]
        exact word_of Ieee.single a hw.2
    · rw [if_neg hi]
      have hlt : rungOf Ieee.single a < Ieee.single.infRung := by
        have : ¬ Ieee.single.infRung < rungOf Ieee.single a := fun x => hn (decide_eq_true x)
        omega
      obtain ⟨k, q, a1, a2, a3, a4, a5⟩ := wd_fin a hlt
      have ew : Ieee.double.nearest (negOf Ieee.single a) (magOf Ieee.single (rungOf Ieee.single a)) (Ieee.single.leastPlace + (plOf Ieee.single (rungOf Ieee.single a) : Int)) = wd a := by
        unfold wd
        rw [read_num Ieee.single a hlt]
        rfl
      rw [ew]
      have hrd := read_num Ieee.double (wd a) a3
      rw [a2] at hrd
      injection hrd with r1 r2 r3
      refine ⟨_, rfl, ?_, ?_⟩
      · have h1 := near_lt Ieee.double (negOf Ieee.single a) (magOf Ieee.single (rungOf Ieee.single a)) (Ieee.single.leastPlace + (plOf Ieee.single (rungOf Ieee.single a) : Int))
        rw [ew, d_sgn] at h1
        omega
      · rw [w64, if_neg (by unfold nanW; rw [decide_eq_false (by omega)]; decide), if_neg (by omega), ← r2, ← r3, a5, nearest_scale, a1]
        rw [nearest_word Ieee.single a hw.2 bin_single hlt]
end Go.Proofs.Ytonofklhapfdpaa.Pure
