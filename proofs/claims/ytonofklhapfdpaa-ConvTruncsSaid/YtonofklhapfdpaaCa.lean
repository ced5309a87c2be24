/-
  Sizes, Kind, Canonical, Round and Parts of the program's floats, in closed form. No condition but that a word is one.
-/
import Derived.Test.YtonofklhapfdpaaPC
import Derived.Test.YtonofklhapfdpaaPConvx8
import Derived.OpenShut
namespace Go.Proofs.Ytonofklhapfdpaa.Pure
set_option linter.unusedVariables false
set_option linter.unusedSimpArgs false
open Go.RowKit Go.Proofs.Ytonofklhapfdpaa.PConv Go.Proofs.Ytonofklhapfdpaa.Fl Go.Proofs.YtonofklhapfdpaaW.PrintWords Go.Proofs.YtonofklhapfdpaaW.PrintLast

/-- A size that is right, its format, and what is told of both. -/
structure Sz (n p q : Int) (f : Ieee.Format) : Prop where
  ok : n = 32 ∨ n = 64
  pq : Pq p q f
  of : floats_of.f n = some (p, q)
  fm : fmtOf n = f
  sg : sgnI n = (f.signWeight : Int)
  res : ∀ o, resP p o = resOf n o
  cut : ∀ a : Nat, a < 18446744073709551616 → a % (2 * f.signWeight) = wOf n (a : Int)
theorem sz (n : Int) (h : n = 32 ∨ n = 64) : ∃ p q f, Sz n p q f := by
  rcases h with rfl | rfl
  · refine ⟨23, 8, Ieee.single, .inl rfl, .inl ⟨rfl, rfl, rfl⟩, rfl, rfl, by decide +kernel, ?_, ?_⟩
    · intro o; cases o <;> rfl
    · intro a ha
      rw [s_sgn]
      show a % 4294967296 = ((a : Int) % 4294967296).toNat
      omega
  · refine ⟨52, 11, Ieee.double, .inr rfl, .inr ⟨rfl, rfl, rfl⟩, rfl, rfl, by decide +kernel, ?_, ?_⟩
    · intro o; cases o <;> rfl
    · intro a ha
      rw [d_sgn]
      show a % 18446744073709551616 = (a : Int).toNat
      omega
theorem Sz.lt {n p q f} (h : Sz n p q f) (a : Nat) (ha : a < 18446744073709551616) : wOf n (a : Int) < 2 * f.signWeight := by
  rw [← h.cut a ha]
  exact Nat.mod_lt _ (by have : 0 < f.signWeight := pw_pos _
                         omega)
theorem of_wrong (n : Int) (h : n ≠ 32) (h' : n ≠ 64) : floats_of.f n = some (0, 0) := by
  unfold floats_of.f; rw [if_neg h, if_neg h']
theorem none_wrong : floats_format_none.f 0 0 = some true := by decide +kernel
theorem Sz.none {n p q f} (h : Sz n p q f) : floats_format_none.f p q = some false := c_none h.pq

theorem Sz.same {n p q f} (h : Sz n p q f) (a : Nat) (ha : a < 18446744073709551616) : rungOf f a = rungOf f (wOf n (a : Int)) ∧ negOf f a = negOf f (wOf n (a : Int)) := by
  rw [← h.cut a ha]
  have hs : 0 < f.signWeight := pw_pos _
  have hd := Nat.div_add_mod a (2 * f.signWeight)
  have hm := Nat.mod_lt a (show 0 < 2 * f.signWeight by omega)
  generalize hq : a / (2 * f.signWeight) = x at *
  generalize hr : a % (2 * f.signWeight) = r at *
  have e : a = f.signWeight * (2 * x) + r := by rw [← hd]; have : 2 * f.signWeight * x = f.signWeight * (2 * x) := by ac_rfl
                                                omega
  constructor
  · unfold rungOf; rw [e, Nat.mul_add_mod]
  · unfold negOf
    rw [e, Nat.mul_add_div hs]
    have : (2 * x + r / f.signWeight) % 2 = r / f.signWeight % 2 := by omega
    rw [this]
theorem c_Kind (n : Int) (a : Nat) (ha : a < 18446744073709551616) : floats_Kind.f n a = some (kindF n a) := by
  by_cases hn : n = 32 ∨ n = 64
  · obtain ⟨p, q, f, S⟩ := sz n hn
    unfold floats_Kind.f kindF
    rw [S.of, if_neg (by omega), S.fm]
    simp only [Option.bind_some]
    rw [c_size S.pq a ha, S.none, c_inf S.pq, (S.same a ha).1]
    simp only [Option.bind_some]
    rw [if_neg (by decide)]
    unfold nanW
    generalize rungOf f (wOf n (a : Int)) = r
    by_cases z : r = 0
    · rw [if_pos (by omega), if_pos z]
    · rw [if_neg (by omega), if_neg z]
      by_cases l : r < f.infRung
      · rw [if_pos (by omega), if_neg (by rw [decide_eq_false (by omega)]; decide), if_neg (by omega)]
      · rw [if_neg (by omega)]
        by_cases e : r = f.infRung
        · rw [if_pos (by omega), if_neg (by rw [decide_eq_false (by omega)]; decide), if_pos e]
        · rw [if_neg (by omega), if_pos (decide_eq_true (by omega))]
  · unfold floats_Kind.f kindF
    rw [of_wrong n (by omega) (by omega), if_pos (by omega)]
    simp only [Option.bind_some]
    have : ∃ s, floats_format_size.f 0 0 (a : Int) = some s := by
      unfold floats_format_size.f floats_format_sign.f
      rw [if_pos (by rw [IntKind.wrap_u64]; omega)]
      exact ⟨_, rfl⟩
    obtain ⟨s, hs⟩ := this
    rw [hs, none_wrong]
    simp only [Option.bind_some]
    rw [if_pos True.intro]
theorem c_Canonical (n : Int) : floats_Canonical.f n = some (if n = 32 ∨ n = 64 then canon n else 0) := by
  by_cases hn : n = 32 ∨ n = 64
  · obtain ⟨p, q, f, S⟩ := sz n hn
    unfold floats_Canonical.f
    rw [S.of, if_pos hn]
    simp only [Option.bind_some]
    rw [S.none]
    simp only [Option.bind_some]
    rw [if_neg (by decide), c_nanv S.pq, S.res none]
    rfl
  · unfold floats_Canonical.f
    rw [of_wrong n (by omega) (by omega), if_neg hn]
    simp only [Option.bind_some]
    rw [none_wrong]
    simp only [Option.bind_some]
    rw [if_pos True.intro]

def roundF (n : Int) (neg : Bool) (m : Nat) (e : Int) (more : Bool) : Int × Int :=
  if (n ≠ 32 ∧ n ≠ 64) ∨ (more = true ∧ m < 288230376151711744) then (0, 1) else ((((fmtOf n).nearest neg (2 * m + more.toNat) (e - 1) : Nat) : Int), 0)
theorem c_Round (n : Int) (neg : Bool) (m : Nat) (hm : m < 18446744073709551616) (e : Int) (more : Bool) (k : Nat) (hk : 4 ≤ k) : floats_Round.f k n neg m e more = some (roundF n neg m e more) := by
  obtain ⟨k, rfl⟩ : ∃ j, k = j + 1 := ⟨k - 1, by omega⟩
  have bad : floats_Round.j0 (k + 1) n neg m e more true = some (0, 1) := by
    simp only [floats_Round.j0]; rw [if_pos True.intro]
  unfold floats_Round.f roundF
  by_cases hn : n = 32 ∨ n = 64
  · obtain ⟨p, q, f, S⟩ := sz n hn
    rw [S.of]
    simp only [Option.bind_some]
    rw [S.none]
    simp only [Option.bind_some]
    rw [if_neg Bool.false_ne_true, S.fm]
    have good : (more = true → 288230376151711744 ≤ m) → floats_Round.j0 (k + 1) n neg m e more false = some (((f.nearest neg (2 * m + more.toNat) (e - 1) : Nat) : Int), 0) := by
      intro h
      simp only [floats_Round.j0]
      rw [if_neg Bool.false_ne_true, S.of]
      simp only [Option.bind_some]
      rw [c_round' S.pq neg m hm e more h k (by omega)]
      simp only [Option.bind_some]
    cases more
    · rw [if_neg Bool.false_ne_true, if_neg (fun x => x.elim (fun y => by omega) (fun y => by cases y.1))]
      exact good (fun x => by cases x)
    · rw [if_pos rfl]
      by_cases c : m < 288230376151711744
      · rw [decide_eq_true (by omega), bad, if_pos (.inr ⟨rfl, c⟩)]
      · rw [decide_eq_false (by omega), if_neg (by omega)]
        exact good (fun _ => by omega)
  · rw [of_wrong n (by omega) (by omega)]
    simp only [Option.bind_some]
    rw [none_wrong]
    simp only [Option.bind_some]
    rw [if_pos True.intro, bad, if_pos (.inl (by omega))]
def partsF (n : Int) (a : Nat) : Bool × Int × Int × Int :=
  if kindF n a = 1 ∨ kindF n a = 2 then (negOf (fmtOf n) (wOf n a), magOf (fmtOf n) (rungOf (fmtOf n) (wOf n a)), (fmtOf n).leastPlace + (plOf (fmtOf n) (rungOf (fmtOf n) (wOf n a)) : Int), 0) else (false, 0, 0, 1)
theorem kind_ok (n : Int) (a : Nat) (h : kindF n a = 1 ∨ kindF n a = 2) : n = 32 ∨ n = 64 := by
  by_cases hn : n = 32 ∨ n = 64
  · exact hn
  · unfold kindF at h
    rw [if_pos (by omega)] at h
    omega
theorem kind_num {n p q f} (S : Sz n p q f) (a : Nat) (h : kindF n a = 1 ∨ kindF n a = 2) : rungOf f (wOf n (a : Int)) < f.infRung := by
  have hb := bin_ok S.pq
  have hB : 0 < f.binade := pw_pos _
  unfold kindF at h
  rw [if_neg (by have := S.ok; omega), S.fm] at h
  unfold nanW at h
  by_cases z : rungOf f (wOf n (a : Int)) = 0
  · omega
  · rw [if_neg z] at h
    by_cases g : f.infRung < rungOf f (wOf n (a : Int))
    · rw [if_pos (decide_eq_true g)] at h; omega
    · rw [if_neg (by rw [decide_eq_false g]; decide)] at h
      by_cases y : rungOf f (wOf n (a : Int)) = f.infRung
      · rw [if_pos y] at h; omega
      · omega
theorem c_Parts (n : Int) (a : Nat) (ha : a < 18446744073709551616) (k : Nat) (hk : 1 ≤ k) : floats_Parts.f k n a = some (partsF n a) := by
  obtain ⟨k, rfl⟩ : ∃ j, k = j + 1 := ⟨k - 1, by omega⟩
  unfold floats_Parts.f partsF
  rw [c_Kind n a ha]
  simp only [Option.bind_some]
  have bad : floats_Parts.j0 (k + 1) n a true = some (false, 0, 0, 1) := by
    simp only [floats_Parts.j0]; rw [if_pos True.intro]
  by_cases g : kindF n a = 1 ∨ kindF n a = 2
  · obtain ⟨p, q, f, S⟩ := sz n (kind_ok n a g)
    have good : floats_Parts.j0 (k + 1) n a false = some (negOf f (wOf n (a : Int)), (magOf f (rungOf f (wOf n (a : Int))) : Int), f.leastPlace + (plOf f (rungOf f (wOf n (a : Int))) : Int), 0) := by
      simp only [floats_Parts.j0]
      rw [if_neg Bool.false_ne_true, S.of]
      simp only [Option.bind_some]
      rw [c_parts S.pq a ha, c_neg S.pq a ha]
      simp only [Option.bind_some]
      rw [(S.same a ha).1, (S.same a ha).2]
    rw [if_pos g, S.fm]
    rcases g with g | g
    · rw [if_pos g]; exact good
    · rw [if_neg (by omega), show (kindF n a != 2) = false from by rw [g]; rfl]; exact good
  · rw [if_neg (by omega), if_neg g, show (kindF n a != 2) = true from bne_iff_ne.2 (by omega)]; exact bad
end Go.Proofs.Ytonofklhapfdpaa.Pure
