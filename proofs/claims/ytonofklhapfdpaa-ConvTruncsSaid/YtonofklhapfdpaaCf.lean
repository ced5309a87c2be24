/-
  The program's Trunc, in closed form. No condition but that a word is one.
-/
import Derived.Test.YtonofklhapfdpaaCb
namespace Go.Proofs.Ytonofklhapfdpaa.Pure
set_option linter.unusedVariables false
set_option linter.unusedSimpArgs false
open Go.RowKit Go.Proofs.Ytonofklhapfdpaa.PConv Go.Proofs.Ytonofklhapfdpaa.Fl Go.Proofs.YtonofklhapfdpaaW.PrintWords Go.Proofs.YtonofklhapfdpaaW.PrintLast

/-- What is whole of a float's size. -/
def truncT (f : Ieee.Format) (r : Nat) : Nat := if f.leastPlace + (plOf f r : Int) < 0 then magOf f r / 2 ^ (-(f.leastPlace + (plOf f r : Int))).toNat else magOf f r * 2 ^ (f.leastPlace + (plOf f r : Int)).toNat
def cutI (t : Int) (neg : Bool) (T : Nat) : Int := if neg = true ∧ T ≠ 0 then 2 ^ t.toNat - (T : Int) else T
def overF (t : Int) (s b neg : Bool) : Int × Int := if b = true then (endI t s neg, 0) else (0, 42)
def truncF (fr t : Int) (s b : Bool) (a : Nat) : Int × Int :=
  if nanW (fmtOf fr) (wOf fr a) = true then (0, if b = true then 0 else 43)
  else if rungOf (fmtOf fr) (wOf fr a) = (fmtOf fr).infRung ∨ mostI t s (negOf (fmtOf fr) (wOf fr a)) < (truncT (fmtOf fr) (rungOf (fmtOf fr) (wOf fr a)) : Int) then overF t s b (negOf (fmtOf fr) (wOf fr a))
  else (cutI t (negOf (fmtOf fr) (wOf fr a)) (truncT (fmtOf fr) (rungOf (fmtOf fr) (wOf fr a))), 0)
theorem most_lt (t : Int) (h : Rt t) (s neg : Bool) : mostI t s neg < 18446744073709551616 ∧ (t = 32 → mostI t s neg < 4294967296) ∧ (s = false → neg = true → mostI t s neg = 0) := by
  unfold mostI
  rcases h with rfl | rfl <;> cases s <;> cases neg <;> refine ⟨by decide, fun h => ?_, fun a b => ?_⟩ <;> first | decide | (cases h; done) | (cases a; done) | (cases b; done)
theorem c_cut (t : Int) (h : Rt t) (s neg : Bool) (T : Nat) (hT : (T : Int) ≤ mostI t s neg) : conv_kind_cut.f t s neg T = some (cutI t neg T) := by
  have hm := most_lt t h s neg
  have hT64 : T < 18446744073709551616 := by omega
  unfold conv_kind_cut.f cutI
  rcases h with rfl | rfl
  · have h32 := hm.2.1 rfl
    have hp : (2 : Int) ^ (32 : Int).toNat = 4294967296 := by decide
    cases neg
    · rw [if_neg Bool.false_ne_true, if_pos (by decide), and32c T hT64, if_neg (fun x => by cases x.1)]
      congr 1; omega
    · rw [if_pos rfl, if_pos (by decide)]
      by_cases h0 : T = 0
      · subst h0
        rw [if_neg (fun x => x.2 rfl)]
        decide
      · rw [if_pos ⟨rfl, h0⟩, hp]
        have e : IntKind.u64.wrap (-(T : Int)) = ((18446744073709551616 - T : Nat) : Int) := by rw [IntKind.wrap_u64]; omega
        rw [e, and32c _ (by omega)]
        congr 1; omega
  · have hp : (2 : Int) ^ (64 : Int).toNat = 18446744073709551616 := by decide
    cases neg
    · rw [if_neg Bool.false_ne_true, if_neg (by decide), if_neg (fun x => by cases x.1)]
    · rw [if_pos rfl, if_neg (by decide)]
      by_cases h0 : T = 0
      · subst h0
        rw [if_neg (fun x => x.2 rfl)]
        decide
      · rw [if_pos ⟨rfl, h0⟩, hp]
        congr 1
        rw [IntKind.wrap_u64]; omega
theorem c_over (k : Nat) (t : Int) (h : Rt t) (s b neg : Bool) : (conv_kind_over.f (k + 1) t s b neg).bind (fun x => some (x.1, x.2)) = some (overF t s b neg) := by
  cases b
  · rw [over_no]; rfl
  · rw [over_yes k t h]; rfl
theorem c_j2 (k : Nat) (t : Int) (h : Rt t) (s b neg : Bool) (T : Nat) : conv_Trunc.j2 (k + 2) b neg T t s = some (if mostI t s neg < (T : Int) then overF t s b neg else (cutI t neg T, 0)) := by
  simp only [conv_Trunc.j2]
  rw [most_ok k t h s neg]
  simp only [Option.bind_some]
  by_cases c : mostI t s neg < (T : Int)
  · rw [if_pos c, if_pos c]; exact c_over k t h s b neg
  · rw [if_neg c, if_neg c, c_cut t h s neg T (by omega)]
    rfl
theorem kind_ge (n : Int) (h : Rt n) (a : Nat) : (kindF n a = 4 ↔ nanW (fmtOf n) (wOf n a) = true) ∧ (kindF n a = 3 → rungOf (fmtOf n) (wOf n a) = (fmtOf n).infRung) ∧ (kindF n a ≠ 4 → kindF n a ≠ 3 → kindF n a = 1 ∨ kindF n a = 2) := by
  have hi : 0 < (fmtOf n).infRung := by unfold fmtOf; split <;> first | (rw [s_inf]; decide) | (rw [d_inf]; decide)
  unfold kindF nanW
  rw [if_neg (by rcases h with rfl | rfl <;> omega)]
  by_cases z : rungOf (fmtOf n) (wOf n (a : Int)) = 0
  · rw [if_pos z, z]
    refine ⟨⟨fun x => by omega, fun x => ?_⟩, fun x => by omega, fun _ _ => .inl rfl⟩
    have := of_decide_eq_true x; omega
  · rw [if_neg z]
    by_cases g : (fmtOf n).infRung < rungOf (fmtOf n) (wOf n (a : Int))
    · rw [if_pos (decide_eq_true g)]
      exact ⟨⟨fun _ => decide_eq_true g, fun _ => rfl⟩, fun x => by omega, fun x => absurd rfl x⟩
    · rw [if_neg (by rw [decide_eq_false g]; decide)]
      by_cases y : rungOf (fmtOf n) (wOf n (a : Int)) = (fmtOf n).infRung
      · rw [if_pos y]
        exact ⟨⟨fun x => by omega, fun x => absurd (of_decide_eq_true x) g⟩, fun _ => y, fun _ x => absurd rfl x⟩
      · rw [if_neg y]
        exact ⟨⟨fun x => by omega, fun x => absurd (of_decide_eq_true x) g⟩, fun x => by omega, fun _ _ => .inr rfl⟩
theorem two_pow64 {a : Nat} (h : 64 ≤ a) : 18446744073709551616 ≤ 2 ^ a := by
  have := Nat.pow_le_pow_right (show 0 < 2 by decide) h
  have e : (2 : Nat) ^ 64 = 18446744073709551616 := by decide
  omega
theorem c_Trunc (fr t : Int) (hf : Rt fr) (ht : Rt t) (s b : Bool) (a : Nat) (ha : a < 18446744073709551616) (k : Nat) : conv_Trunc.f (k + 5) fr t s b a = some (truncF fr t s b a) := by
  obtain ⟨p, q, f, S⟩ := sz fr hf
  obtain ⟨w1, w2, w3, w4, w5, w6, w7, w8, w9, w10, w11, w12⟩ := c_w S.pq
  have kg := kind_ge fr hf a
  obtain ⟨kd, hk⟩ : ∃ kd, kd = kindF fr (a : Int) := ⟨_, rfl⟩
  have top : conv_Trunc.f (k + 5) fr t s b a = conv_Trunc.j1 (k + 4) fr b a kd (if kd = 4 then b else false) t s := by
    unfold conv_Trunc.f
    rw [right_y fr hf, right_y t ht]
    simp only [Option.bind_some]
    rw [if_pos True.intro]
    simp only [conv_Trunc.j0, Bool.not_true]
    rw [if_neg Bool.false_ne_true, c_Kind fr a ha, ← hk]
    simp only [Option.bind_some]
    split <;> rfl
  rw [top]
  rw [← hk] at kg
  unfold truncF
  by_cases c4 : kd = 4
  · have hn := kg.1.1 c4
    rw [if_pos hn, if_pos c4]
    simp only [conv_Trunc.j1]
    cases b
    · rw [if_neg Bool.false_ne_true, if_pos c4, if_neg Bool.false_ne_true]
    · rw [if_pos rfl, if_pos rfl]
  · have hn : ¬ nanW (fmtOf fr) (wOf fr (a : Int)) = true := fun x => c4 (kg.1.2 x)
    rw [if_neg hn, if_neg c4]
    simp only [conv_Trunc.j1]
    rw [if_neg Bool.false_ne_true, if_neg c4]
    by_cases c3 : kd = 3
    · have hi := kg.2.1 c3
      rw [if_pos c3, if_pos (u64_pos _), if_pos (.inl hi)]
      have hneg : (Go.bits .and .u64 (shr .u64 (a : Int) (IntKind.u64.wrap (wrap64 (fr - 1)))) 1 == 1) = negOf (fmtOf fr) (wOf fr (a : Int)) := by
        rw [S.fm, ← (S.same a ha).2]
        have h1 : ∀ x : Nat, x < 18446744073709551616 → (Go.bits .and .u64 (x : Int) 1 == 1) = (x % 2 == 1) := by
          intro x hx
          have := odd_bit x hx
          rw [Bool.eq_iff_iff, beq_iff_eq, this, beq_iff_eq]
        unfold negOf
        rcases hf with rfl | rfl
        · have e : IntKind.u64.wrap (wrap64 (32 - 1)) = ((31 : Nat) : Int) := by rw [IntKind.wrap_u64]; unfold wrap64; omega
          have hfs : f = Ieee.single := by rw [← S.fm]; rfl
          rw [e, shr_nat a 31 (by decide), h1 _ (by omega), hfs, s_sgn]
        · have e : IntKind.u64.wrap (wrap64 (64 - 1)) = ((63 : Nat) : Int) := by rw [IntKind.wrap_u64]; unfold wrap64; omega
          have hfs : f = Ieee.double := by rw [← S.fm]; rfl
          rw [e, shr_nat a 63 (by decide), h1 _ (by omega), hfs, d_sgn]
      rw [hneg]
      exact c_over (k + 3) t ht s b _
    · have hor := kg.2.2 c4 c3
      have hnum := kind_num S a (by rw [← hk]; exact hor)
      have hp : partsF fr a = (negOf f (wOf fr (a : Int)), (magOf f (rungOf f (wOf fr (a : Int))) : Int), f.leastPlace + (plOf f (rungOf f (wOf fr (a : Int))) : Int), 0) := by
        unfold partsF
        rw [if_pos (by rw [← hk]; exact hor), S.fm]
      rw [if_neg c3, c_Parts fr a ha (k + 3) (by omega), hp, S.fm]
      simp only [Option.bind_some]
      have hni : ¬ rungOf f (wOf fr (a : Int)) = f.infRung := by omega
      generalize hr : rungOf f (wOf fr (a : Int)) = r at *
      generalize negOf f (wOf fr (a : Int)) = neg at *
      have hmag := mag_lt f r
      have hge := mag_ge f r
      have hpl : plOf f r ≤ 4096 := by
        unfold plOf
        have hb : 0 < f.binade := pw_pos _
        have h1 : r / f.binade ≤ 2 ^ f.exponentBits := by
          refine Nat.div_le_of_le_mul ?_
          rw [Nat.mul_comm, ← w11]; omega
        have h2 : 2 ^ f.exponentBits ≤ 2 ^ 11 := Nat.pow_le_pow_right (by decide) w5
        have h3 : (2 : Nat) ^ 11 = 2048 := by decide
        omega
      have hT : ∀ (T : Nat), T = truncT f r → conv_Trunc.j2 (k + 3) b neg T t s = some (if r = f.infRung ∨ mostI t s neg < (truncT f r : Int) then overF t s b neg else (cutI t neg (truncT f r), 0)) := by
        intro T e
        rw [c_j2 (k + 1) t ht s b neg T, e]
        by_cases c : mostI t s neg < (truncT f r : Int)
        · rw [if_pos c, if_pos (.inr c)]
        · rw [if_neg c, if_neg (fun x => x.elim hni c)]
      obtain ⟨e, he⟩ : ∃ e, e = f.leastPlace + (plOf f r : Int) := ⟨_, rfl⟩
      have heb : -1074 ≤ e ∧ e ≤ 4000 := by omega
      have hTe : truncT f r = if e < 0 then magOf f r / 2 ^ (-e).toNat else magOf f r * 2 ^ e.toNat := by rw [he]; rfl
      rw [← he]
      by_cases e1 : e ≤ -64
      · rw [if_pos e1]
        refine hT 0 ?_
        rw [hTe, if_pos (by omega)]
        refine (Nat.div_eq_of_lt ?_).symm
        have := two_pow64 (a := (-e).toNat) (by omega)
        omega
      · rw [if_neg e1]
        by_cases e2 : e < 0
        · have hw : IntKind.u64.wrap (wrap64 (-e)) = (((-e).toNat : Nat) : Int) := by
            rw [IntKind.wrap_u64]; unfold wrap64; omega
          rw [if_pos e2, if_pos (u64_pos _), hw, shr_nat _ _ (by omega)]
          exact hT _ (by rw [hTe, if_pos e2])
        · have hm0 : magOf f r ≠ 0 := by
            have hb : 0 < f.binade := pw_pos _
            have := hge (by omega)
            omega
          have hM : magOf f r < 18446744073709551616 := by omega
          rw [if_neg e2, c_len _ hM hm0]
          simp only [Option.bind_some]
          have hlg : (magOf f r).log2 < 64 := by
            rw [Nat.log2_lt hm0]; exact hM
          have hw : wrap64 (((magOf f r).log2 + 1 : Nat) + e) = ((magOf f r).log2 + 1 : Nat) + e := by unfold wrap64; omega
          rw [hw]
          have hself := Nat.log2_self_le hm0
          by_cases e3 : (((magOf f r).log2 + 1 : Nat) : Int) + e > 64
          · rw [if_pos e3]
            have hbig : 18446744073709551616 ≤ truncT f r := by
              rw [hTe, if_neg e2]
              have h1 := two_pow64 (a := (magOf f r).log2 + e.toNat) (by omega)
              rw [Nat.pow_add] at h1
              exact Nat.le_trans h1 (Nat.mul_le_mul_right _ hself)
            have hml := (most_lt t ht s neg).1
            rw [if_pos (.inr (by omega))]
            exact c_over (k + 3) t ht s b neg
          · rw [if_neg e3, if_pos (u64_pos _)]
            have hwe : IntKind.u64.wrap e = ((e.toNat : Nat) : Int) := by rw [IntKind.wrap_u64]; omega
            have hlt : magOf f r * 2 ^ e.toNat < 18446744073709551616 := by
              have h1 : magOf f r < 2 ^ ((magOf f r).log2 + 1) := Nat.lt_log2_self
              have h2 : magOf f r * 2 ^ e.toNat < 2 ^ ((magOf f r).log2 + 1) * 2 ^ e.toNat := Nat.mul_lt_mul_of_pos_right h1 (pw_pos _)
              rw [← Nat.pow_add] at h2
              have h3 : 2 ^ ((magOf f r).log2 + 1 + e.toNat) ≤ 2 ^ 64 := Nat.pow_le_pow_right (by decide) (by omega)
              have h4 : (2 : Nat) ^ 64 = 18446744073709551616 := by decide
              omega
            rw [hwe, shl_nat _ _ hlt (by omega)]
            exact hT _ (by rw [hTe, if_neg e2])
end Go.Proofs.Ytonofklhapfdpaa.Pure
