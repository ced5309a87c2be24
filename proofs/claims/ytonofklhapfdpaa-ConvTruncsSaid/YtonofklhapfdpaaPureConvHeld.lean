/-
  The plain law of ConvHeld: where a float is cut without a trap it is held to the same; where it traps it is held at an end, or 0.
-/
import Derived.Test.YtonofklhapfdpaaPConvx8
import Derived.Laws.BitsAllLaws
import Derived.OpenShut
import Derived.Test.YtonofklhapfdpaaPC
namespace Go.Proofs.Ytonofklhapfdpaa.Pure
set_option linter.unusedVariables false
set_option linter.unusedSimpArgs false
open Go.RowKit Go.Proofs.Ytonofklhapfdpaa.PConv Go.Proofs.YtonofklhapfdpaaW.PrintWords Go.Proofs.YtonofklhapfdpaaW.PrintLast

def Rt (n : Int) : Prop := n = 32 ∨ n = 64
theorem u64_pos (x : Int) : 0 ≤ IntKind.u64.wrap x := by rw [IntKind.wrap_u64]; omega
theorem right_y (n : Int) (h : Rt n) : conv_right.f n = some true := by
  unfold conv_right.f
  rcases h with rfl | rfl <;> rfl
theorem right_n (n : Int) (h : ¬ Rt n) : conv_right.f n = some false := by
  unfold Rt at h
  unfold conv_right.f
  rw [if_neg (by omega)]
  congr 1
  rw [beq_eq_false_iff_ne]
  omega
theorem sign_tot (x y : Int) : ∃ r, floats_format_sign.f x y = some r := ⟨_, by unfold floats_format_sign.f; rw [if_pos (u64_pos _)]⟩
theorem size_tot (x y a : Int) : ∃ r, floats_format_size.f x y a = some r := by
  obtain ⟨s, hs⟩ := sign_tot x y
  exact ⟨_, by unfold floats_format_size.f; rw [hs, Option.bind_some]⟩
theorem inf_tot (x y : Int) : ∃ r, floats_format_infinity.f x y = some r := ⟨_, by unfold floats_format_infinity.f; rw [if_pos (u64_pos _), if_pos (u64_pos _)]⟩
theorem least_tot (x y : Int) : ∃ r, floats_format_least.f x y = some r := ⟨_, by unfold floats_format_least.f; rw [if_pos (u64_pos _)]⟩
theorem neg_tot (x y a : Int) : ∃ r, floats_format_neg.f x y a = some r := by
  obtain ⟨s, hs⟩ := sign_tot x y
  exact ⟨_, by unfold floats_format_neg.f; rw [hs, Option.bind_some]⟩
theorem parts_tot (x y a : Int) : ∃ r, floats_format_parts.f x y a = some r := by
  obtain ⟨s, hs⟩ := size_tot x y a
  obtain ⟨l, hl⟩ := least_tot x y
  unfold floats_format_parts.f
  rw [hs, Option.bind_some, if_pos (u64_pos _), hl]
  simp only [Option.bind_some]
  split <;> exact ⟨_, rfl⟩
theorem of_y (n : Int) (h : Rt n) : ∃ p : Int × Int, floats_of.f n = some p ∧ p.1 ≠ 0 := by
  unfold floats_of.f
  rcases h with rfl | rfl
  · exact ⟨(23, 8), rfl, by decide⟩
  · exact ⟨(52, 11), rfl, by decide⟩
/-- A float's kind is one of four. -/
theorem kind_tot (n a : Int) (h : Rt n) : ∃ r, floats_Kind.f n a = some r ∧ (r = 1 ∨ r = 2 ∨ r = 3 ∨ r = 4) := by
  obtain ⟨p, hp, h0⟩ := of_y n h
  obtain ⟨s, hs⟩ := size_tot p.1 p.2 a
  obtain ⟨i, hi⟩ := inf_tot p.1 p.2
  have hn : floats_format_none.f p.1 p.2 = some false := by
    unfold floats_format_none.f
    rw [show (p.1 == 0) = false from beq_eq_false_iff_ne.2 h0, Bool.false_and]
  unfold floats_Kind.f
  rw [hp, Option.bind_some, hs, Option.bind_some, hn, Option.bind_some, if_neg (by decide), hi]
  simp only [Option.bind_some]
  split
  · exact ⟨_, rfl, by omega⟩
  · split
    · exact ⟨_, rfl, by omega⟩
    · split <;> exact ⟨_, rfl, by omega⟩
theorem Parts_tot (k : Nat) (n a : Int) (h : Rt n) : ∃ r, floats_Parts.f (k + 1) n a = some r := by
  obtain ⟨r, hr, _⟩ := kind_tot n a h
  obtain ⟨p, hp, _⟩ := of_y n h
  obtain ⟨q, hq⟩ := parts_tot p.1 p.2 a
  obtain ⟨s, hs⟩ := neg_tot p.1 p.2 a
  have j : ∀ b, ∃ r, floats_Parts.j0 (k + 1) n a b = some r := by
    intro b
    simp only [floats_Parts.j0]
    rw [hp]
    simp only [Option.bind_some]
    rw [hq, hs]
    simp only [Option.bind_some]
    split <;> exact ⟨_, rfl⟩
  unfold floats_Parts.f
  rw [hr, Option.bind_some]
  split <;> exact j _
/-- The greatest and the least of an integer's kind. -/
def mostI (t : Int) (s neg : Bool) : Int := if s then (if neg then 2 ^ (t - 1).toNat else 2 ^ (t - 1).toNat - 1) else (if neg then 0 else 2 ^ t.toNat - 1)
theorem most_ok (k : Nat) (t : Int) (h : Rt t) (s neg : Bool) : conv_kind_most.f (k + 1) t s neg = some (mostI t s neg) := by
  rcases h with rfl | rfl <;> cases s <;> cases neg <;> (unfold conv_kind_most.f; simp only [conv_kind_most.j0]; decide +kernel)
/-- What is held is one of the two ends. -/
def endI (t : Int) (s neg : Bool) : Int := if s then (if neg then 2 ^ (t - 1).toNat else 2 ^ (t - 1).toNat - 1) else (if neg then 0 else 2 ^ t.toNat - 1)
theorem over_no (k : Nat) (t : Int) (s neg : Bool) : conv_kind_over.f k t s false neg = some (0, 42) := by
  unfold conv_kind_over.f
  rw [if_neg (by decide)]
theorem over_yes (k : Nat) (t : Int) (h : Rt t) (s neg : Bool) : conv_kind_over.f (k + 1) t s true neg = some (endI t s neg, 0) := by
  unfold conv_kind_over.f
  rw [if_pos rfl, most_ok k t h s neg]
  simp only [Option.bind_some]
  rcases h with rfl | rfl <;> cases s <;> cases neg <;> decide +kernel
theorem cut_tot (t : Int) (s neg : Bool) (x : Int) : ∃ r, conv_kind_cut.f t s neg x = some r := by
  unfold conv_kind_cut.f
  split <;> split <;> exact ⟨_, rfl⟩
def Two (kd : Int) (t : Int) (s : Bool) (F T : Option (Int × Int)) : Prop :=
  (kd = 4 ∧ F = some (0, 43) ∧ T = some (0, 0)) ∨ (kd ≠ 4 ∧ ∃ x, F = some (x, 0) ∧ T = some (x, 0)) ∨ (kd ≠ 4 ∧ ∃ neg, F = some (0, 42) ∧ T = some (endI t s neg, 0))
theorem two_j2 (k : Nat) (kd : Int) (h4 : kd ≠ 4) (t : Int) (h : Rt t) (s neg : Bool) (x : Int) : Two kd t s (conv_Trunc.j2 (k + 2) false neg x t s) (conv_Trunc.j2 (k + 2) true neg x t s) := by
  simp only [conv_Trunc.j2]
  rw [most_ok k t h s neg]
  simp only [Option.bind_some]
  by_cases c : x > mostI t s neg
  · rw [if_pos c, if_pos c, over_no, over_yes k t h]
    exact .inr (.inr ⟨h4, neg, rfl, rfl⟩)
  · rw [if_neg c, if_neg c]
    obtain ⟨r, hr⟩ := cut_tot t s neg x
    rw [hr]
    exact .inr (.inl ⟨h4, r, rfl, rfl⟩)
theorem two_over (k : Nat) (kd : Int) (h4 : kd ≠ 4) (t : Int) (h : Rt t) (s neg : Bool) : Two kd t s ((conv_kind_over.f (k + 1) t s false neg).bind fun b => some (b.1, b.2)) ((conv_kind_over.f (k + 1) t s true neg).bind fun b => some (b.1, b.2)) := by
  rw [over_no, over_yes k t h]
  exact .inr (.inr ⟨h4, neg, rfl, rfl⟩)
theorem len_tot (x : Int) (h : 0 ≤ x ∧ x ≤ 18446744073709551615) : ∃ r, bits_Len64.f x = some r := by
  unfold bits_Len64.f
  rw [if_pos h]
  exact ⟨_, rfl⟩
theorem parts_in (k : Nat) (n : Int) (h : Rt n) (a : Nat) (ha : a < 18446744073709551616) : ∃ r, floats_Parts.f (k + 1) n a = some r ∧ 0 ≤ r.2.1 ∧ r.2.1 ≤ 18446744073709551615 := by
  obtain ⟨p, q, f, hpq, ho⟩ : ∃ p q f, Pq p q f ∧ floats_of.f n = some (p, q) := by
    rcases h with rfl | rfl
    · exact ⟨23, 8, Ieee.single, .inl ⟨rfl, rfl, rfl⟩, rfl⟩
    · exact ⟨52, 11, Ieee.double, .inr ⟨rfl, rfl, rfl⟩, rfl⟩
  obtain ⟨w1, w2, w3, w4, w5, w6, w7, w8, w9, w10, w11, w12⟩ := c_w hpq
  obtain ⟨kd, hk, _⟩ := kind_tot n a h
  have hm := Fl.mag_lt f (Fl.rungOf f a)
  have j : ∀ b, ∃ r, floats_Parts.j0 (k + 1) n a b = some r ∧ 0 ≤ r.2.1 ∧ r.2.1 ≤ 18446744073709551615 := by
    intro b
    simp only [floats_Parts.j0]
    rw [ho]
    simp only [Option.bind_some]
    rw [c_parts hpq a ha, c_neg hpq a ha]
    simp only [Option.bind_some]
    split
    · exact ⟨_, rfl, by decide, by decide⟩
    · exact ⟨_, rfl, by show (0 : Int) ≤ (Fl.magOf f (Fl.rungOf f a) : Int); omega, by show (Fl.magOf f (Fl.rungOf f a) : Int) ≤ _; omega⟩
  unfold floats_Parts.f
  rw [hk, Option.bind_some]
  split <;> exact j _
theorem two_Trunc (k : Nat) (n t : Int) (hn : Rt n) (ht : Rt t) (s : Bool) (a : Nat) (ha : a < 18446744073709551616) :
    ∃ kd, floats_Kind.f n a = some kd ∧ Two kd t s (conv_Trunc.f (k + 4) n t s false a) (conv_Trunc.f (k + 4) n t s true a) := by
  obtain ⟨kd, hk, h4⟩ := kind_tot n a hn
  refine ⟨kd, hk, ?_⟩
  have top : ∀ b, conv_Trunc.f (k + 4) n t s b a = conv_Trunc.j1 (k + 3) n b a kd (if kd = 4 then b else false) t s := by
    intro b
    unfold conv_Trunc.f
    rw [right_y n hn, right_y t ht]
    simp only [Option.bind_some]
    rw [if_pos True.intro]
    simp only [conv_Trunc.j0]
    rw [if_neg (by decide), hk]
    simp only [Option.bind_some]
    split <;> rfl
  rw [top, top]
  by_cases c : kd = 4
  · rw [if_pos c, if_pos c]
    simp only [conv_Trunc.j1]
    rw [if_neg (by decide), if_pos c, if_pos True.intro]
    exact .inl ⟨c, rfl, rfl⟩
  · rw [if_neg c, if_neg c]
    simp only [conv_Trunc.j1]
    rw [if_neg Bool.false_ne_true, if_neg c, if_neg Bool.false_ne_true, if_neg c]
    by_cases c3 : kd = 3
    · rw [if_pos c3, if_pos c3, if_pos (u64_pos _), if_pos (u64_pos _)]
      exact two_over (k + 1) kd c t ht s _
    · rw [if_neg c3, if_neg c3]
      obtain ⟨r, hr, r0, r1⟩ := parts_in (k + 1) n hn a ha
      rw [hr]
      simp only [Option.bind_some]
      by_cases e1 : r.2.2.1 ≤ -64
      · rw [if_pos e1, if_pos e1]
        exact two_j2 k kd c t ht s _ _
      · rw [if_neg e1, if_neg e1]
        by_cases e2 : r.2.2.1 < 0
        · rw [if_pos e2, if_pos e2, if_pos (u64_pos _), if_pos (u64_pos _)]
          exact two_j2 k kd c t ht s _ _
        · rw [if_neg e2, if_neg e2]
          obtain ⟨l, hl⟩ := len_tot r.2.1 ⟨r0, r1⟩
          rw [hl]
          simp only [Option.bind_some]
          by_cases e3 : wrap64 (l + r.2.2.1) > 64
          · rw [if_pos e3, if_pos e3]
            exact two_over (k + 1) kd c t ht s _
          · rw [if_neg e3, if_neg e3, if_pos (u64_pos _), if_pos (u64_pos _)]
            exact two_j2 k kd c t ht s _ _
theorem wrong_Trunc (k : Nat) (n t : Int) (h : ¬ (Rt n ∧ Rt t)) (s b : Bool) (a : Int) : conv_Trunc.f (k + 1) n t s b a = some (0, 1) := by
  have bad : conv_Trunc.j0 (k + 1) n t s b a true = some (0, 1) := by
    simp only [conv_Trunc.j0]; rw [if_pos True.intro]
  unfold conv_Trunc.f
  by_cases hn : Rt n
  · rw [right_y n hn, right_n t (fun x => h ⟨hn, x⟩)]
    simp only [Option.bind_some]
    rw [if_pos True.intro]
    exact bad
  · rw [right_n n hn]
    simp only [Option.bind_some]
    rw [if_neg (by decide)]
    exact bad
set_option maxRecDepth 100000 in
theorem awake_ok : bodkinlaw04_awake.f 100 = some true := by decide +kernel
theorem held_end (k : Nat) (n t : Int) (ht : Rt t) (s neg : Bool) (a : Int) : bodkinlaw04_ConvHeld.j0 (k + 1) n t s a 42 (endI t s neg) false = some true := by
  simp only [bodkinlaw04_ConvHeld.j0]
  rw [if_neg Bool.false_ne_true, if_neg (by decide), if_pos (u64_pos _)]
  rcases ht with rfl | rfl <;> cases s <;> cases neg <;> decide +kernel
theorem held_nan (k : Nat) (n t : Int) (s : Bool) (a : Int) (h : floats_Kind.f n a = some 4) : bodkinlaw04_ConvHeld.j0 (k + 1) n t s a 43 0 false = some true := by
  simp only [bodkinlaw04_ConvHeld.j0]
  rw [if_neg Bool.false_ne_true, if_pos True.intro, if_pos True.intro, h]
  rfl
theorem ConvHeld_at (n t : Int) (s : Bool) (a : Nat) (ha : a < 18446744073709551616) (k : Nat) (haw : bodkinlaw04_awake.f (k + 4) = some true) : bodkinlaw04_ConvHeld.f (k + 4) n t s a = some true := by
  unfold bodkinlaw04_ConvHeld.f
  rw [haw]
  simp only [Option.bind_some]
  rw [if_pos True.intro]
  by_cases h : Rt n ∧ Rt t
  · obtain ⟨kd, hk, two⟩ := two_Trunc k n t h.1 h.2 s a ha
    rcases two with ⟨c, hF, hT⟩ | ⟨c, x, hF, hT⟩ | ⟨c, neg, hF, hT⟩
    · rw [hF, hT]
      simp only [Option.bind_some]
      rw [if_neg (by decide), if_neg (by decide), if_pos True.intro, bne_self_eq_false]
      exact held_nan (k + 3) n t s a (by rw [hk, c])
    · rw [hF, hT]
      simp only [Option.bind_some]
      rw [if_neg (by decide), if_pos True.intro, if_pos True.intro, beq_self_eq_true]
    · rw [hF, hT]
      simp only [Option.bind_some]
      rw [if_neg (by decide), if_neg (by decide), if_pos True.intro, bne_self_eq_false]
      exact held_end (k + 3) n t h.2 s neg a
  · rw [wrong_Trunc (k + 3) n t h s false a, wrong_Trunc (k + 3) n t h s true a]
    simp only [Option.bind_some]
    rw [if_pos True.intro, if_pos True.intro, if_pos True.intro]
    rfl
theorem ConvHeld : bodkinlaw04_ConvHeld.Pure := by
  intro n t s a3 _ _ h3
  have h3 := bounds_u64 h3
  obtain ⟨a, rfl⟩ := Int.eq_ofNat_of_zero_le h3.1
  exact ⟨_, ConvHeld_at n t s a (by omega) 96 awake_ok⟩
end Go.Proofs.Ytonofklhapfdpaa.Pure
