/-
  What a float's bits say of how it stands; walks of the reference's Kind, of what is worked, of Rel. No condition but that a word is one.
-/
import Derived.Test.YtonofklhapfdpaaRefA
namespace Go.Proofs.Ytonofklhapfdpaa.Ref
set_option linter.unusedVariables false
set_option linter.unusedSimpArgs false
open Go.RowKit Go.Proofs.YtonofklhapfdpaaW.PrintWords Go.Proofs.Ytonofklhapfdpaa.Fl

theorem w64 (n a : Int) (h : n ≠ 32) : fmtOf n = Ieee.double ∧ wOf n a = a.toNat := by unfold fmtOf wOf; rw [if_neg h, if_neg h]; exact ⟨rfl, rfl⟩
theorem w32 (a : Int) : fmtOf 32 = Ieee.single ∧ wOf 32 a = s32 a := ⟨rfl, rfl⟩
theorem bin_of (n : Int) : (fmtOf n).binade ≤ (fmtOf n).infRung := by unfold fmtOf; split; exact bin_single; exact bin_double

theorem val_nan {n a : Int} {x : Nat} (hv : Val n a x) (h : (fmtOf n).infRung < rungOf (fmtOf n) (wOf n a)) : Ieee.double.infRung < rungOf Ieee.double x := by
  unfold Val at hv
  by_cases c : n = 32
  · subst c; rw [if_pos rfl] at hv; exact hv.2 h
  · rw [if_neg c] at hv; subst hv
    rw [(w64 n a c).1, (w64 n a c).2] at h; exact h
theorem val_num {n a : Int} {x : Nat} (hv : Val n a x) (h : rungOf (fmtOf n) (wOf n a) ≤ (fmtOf n).infRung) : (n = 32 → x = wd (s32 a)) ∧ rungOf Ieee.double x ≤ Ieee.double.infRung ∧
    (rungOf Ieee.double x = 0 ↔ rungOf (fmtOf n) (wOf n a) = 0) ∧ (rungOf Ieee.double x = Ieee.double.infRung ↔ rungOf (fmtOf n) (wOf n a) = (fmtOf n).infRung) := by
  unfold Val at hv
  by_cases c : n = 32
  · subst c; rw [if_pos rfl] at hv
    have h' : rungOf Ieee.single (s32 a) ≤ Ieee.single.infRung := h
    rw [(w32 a).1, (w32 a).2]
    have e := hv.1 h'
    refine ⟨fun _ => e, ?_⟩
    rw [e]
    by_cases ci : rungOf Ieee.single (s32 a) = Ieee.single.infRung
    · have := wd_inf (s32 a) ci
      refine ⟨by omega, ?_, ?_⟩
      · rw [this.2.1, ci]; exact ⟨fun x => absurd x (by decide +kernel), fun x => absurd x (by decide +kernel)⟩
      · exact ⟨fun _ => ci, fun _ => this.2.1⟩
    · obtain ⟨k, q, a1, a2, a3, a4, a5⟩ := wd_fin (s32 a) (by omega)
      exact ⟨by omega, a4, by omega, by omega⟩
  · rw [if_neg c] at hv; subst hv
    rw [(w64 n a c).1, (w64 n a c).2] at h ⊢
    exact ⟨fun e => absurd e c, h, Iff.rfl, Iff.rfl⟩
theorem val_order {n a b : Int} {x y : Nat} (hx : Val n a x) (hy : Val n b y) : Ieee.double.order x y = ordOf n a b := by
  unfold ordOf
  by_cases ha : rungOf (fmtOf n) (wOf n a) ≤ (fmtOf n).infRung
  · by_cases hb : rungOf (fmtOf n) (wOf n b) ≤ (fmtOf n).infRung
    · by_cases c : n = 32
      · subst c
        rw [(val_num hx ha).1 rfl, (val_num hy hb).1 rfl]
        exact order_wd _ _ ha hb
      · unfold Val at hx hy
        rw [if_neg c] at hx hy
        rw [(w64 n a c).1, (w64 n a c).2, (w64 n b c).2, hx, hy]
    · rw [order_nan (fmtOf n) _ _ (bin_of n) (.inr (by omega)), order_nan Ieee.double _ _ bin_double (.inr (val_nan hy (by omega)))]
  · rw [order_nan (fmtOf n) _ _ (bin_of n) (.inl (by omega)), order_nan Ieee.double _ _ bin_double (.inl (val_nan hx (by omega)))]

theorem key_zero : Fl.keyOf Ieee.double 0 = 0 := by decide +kernel
theorem rung_zero : rungOf Ieee.double 0 = 0 := by decide +kernel
/-- Is a float nought? -/
theorem val_zero {n a : Int} {x : Nat} (hx : Val n a x) : (Ieee.double.order x 0 == some .eq) = decide (rungOf (fmtOf n) (wOf n a) = 0) := by
  by_cases ha : rungOf (fmtOf n) (wOf n a) ≤ (fmtOf n).infRung
  · obtain ⟨_, h1, h2, _⟩ := val_num hx ha
    rw [order_key Ieee.double x 0 bin_double h1 (by rw [rung_zero]; decide +kernel), key_zero]
    have cmp : ∀ a b : Int, compare a b = if a < b then .lt else if a = b then .eq else .gt := fun a b => rfl
    rw [cmp]
    by_cases z : rungOf (fmtOf n) (wOf n a) = 0
    · rw [decide_eq_true z]
      have : Fl.keyOf Ieee.double x = 0 := by unfold Fl.keyOf; rw [h2.2 z]; split <;> rfl
      rw [this]; rfl
    · rw [decide_eq_false z]
      have : rungOf Ieee.double x ≠ 0 := fun e => z (h2.1 e)
      have : Fl.keyOf Ieee.double x ≠ 0 := by unfold Fl.keyOf; split <;> omega
      rw [if_neg this]
      by_cases l : Fl.keyOf Ieee.double x < 0
      · rw [if_pos l]; rfl
      · rw [if_neg l]; rfl
  · rw [order_nan Ieee.double _ _ bin_double (.inl (val_nan hx (by omega)))]
    have : rungOf (fmtOf n) (wOf n a) ≠ 0 := by omega
    rw [decide_eq_false this]; rfl
theorem order_self (f : Ieee.Format) (w : Nat) (hi : f.binade ≤ f.infRung) (h : rungOf f w ≤ f.infRung) : f.order w w = some .eq := by
  rw [order_key f w w hi h h]
  have cmp : ∀ a b : Int, compare a b = if a < b then .lt else if a = b then .eq else .gt := fun a b => rfl
  rw [cmp, if_neg (by omega), if_pos rfl]

/-- The NaN that the tape gives behind an operation that has no answer. -/
def nanB (w : World) (k : FloatKind) (x y : Nat) : Nat := Question.cut (.nanBits k x y) (w.tape w.drawn (.nanBits k x y))
theorem run_float_nan (op : BinOp) (ho : op = .add ∨ op = .sub ∨ op = .mul ∨ op = .quo) (t : TypeId) (k : FloatKind) (x y : Nat) (h : floatBits op k x y = none) (w : World) :
    (binOp op t (.float k x) (.float k y)).run Try.prog w = .ok (.float k (nanB w k x y)) w.drew := by
  unfold floatBits at h
  rcases ho with rfl | rfl | rfl | rfl <;> simp only at h <;> simp [binOp, Op.floatArith, h] <;> rfl
theorem nanB_64 (w : World) (x y : Nat) : Ieee.double.infRung < rungOf Ieee.double (nanB w .f64 x y) := nan64 _
theorem nanB_32 (w : World) (x y : Nat) : Ieee.single.infRung < rungOf Ieee.single (nanB w .f32 x y) := nan32 _

/-- What is written is no NaN. -/
theorem write_num (f : Ieee.Format) (hi : f.binade ≤ f.infRung) (d : Ieee.Datum) (hd : d.isNaN = false) : rungOf f (f.write d) ≤ f.infRung := by
  cases d with
  | nan => cases hd
  | infinity s => show rungOf f (f.word s f.infRung) ≤ _; rw [(word_rung f s _ (Nat.le_refl _)).1]; exact Nat.le_refl _
  | number s m p =>
    show rungOf f (f.nearest s m p) ≤ _
    by_cases z : m = 0
    · subst z; rw [nearest_zero, (word_rung f s 0 (Nat.zero_le _)).1]; exact Nat.zero_le _
    · rw [nearest_eq f s m p z, (word_rung f s _ (Nat.min_le_right _ _)).1]; exact Nat.min_le_right _ _
theorem sum_ok (d e : Ieee.Datum) (r : Ieee.Datum) (h : d.sum e = some r) : r.isNaN = false := by
  cases d <;> cases e <;> simp only [Ieee.Datum.sum] at h
  all_goals first
    | (cases h; done)
    | (injection h with h; subst h; rfl)
    | (split at h <;> first | (cases h; done) | (injection h with h; subst h; rfl))
theorem product_ok (d e : Ieee.Datum) (r : Ieee.Datum) (h : d.product e = some r) : r.isNaN = false := by
  cases d <;> cases e <;> simp only [Ieee.Datum.product] at h
  all_goals first
    | (cases h; done)
    | (injection h with h; subst h; rfl)
    | (split at h <;> first | (cases h; done) | (injection h with h; subst h; rfl))
theorem quotient_ok (k : Nat) (d e : Ieee.Datum) (r : Ieee.Datum) (h : d.quotient k e = some r) : r.isNaN = false := by
  cases d <;> cases e <;> simp only [Ieee.Datum.quotient] at h
  all_goals first
    | (cases h; done)
    | (injection h with h; subst h; rfl)
    | (repeat' (split at h)) <;> first | (cases h; done) | (injection h with h; subst h; rfl)
theorem root_ok (k : Nat) (d : Ieee.Datum) (r : Ieee.Datum) (h : d.root k = some r) : r.isNaN = false := by
  cases d <;> simp only [Ieee.Datum.root] at h
  all_goals first
    | (cases h; done)
    | (repeat' (split at h)) <;> first | (cases h; done) | (injection h with h; subst h; rfl)
theorem bits_ok (op : BinOp) (k : FloatKind) (x y r : Nat) (h : floatBits op k x y = some r) : rungOf k.format r ≤ k.format.infRung ∧ r < 2 ^ k.format.width := by
  have hi : k.format.binade ≤ k.format.infRung := by cases k; exact bin_single; exact bin_double
  unfold floatBits at h
  cases op <;> simp only at h <;> first | (cases h; done) | skip
  · obtain ⟨d, hd, rfl⟩ := Option.map_eq_some_iff.1 h
    exact ⟨write_num _ hi d (sum_ok _ _ d hd), k.format.write_lt d⟩
  · obtain ⟨d, hd, rfl⟩ := Option.map_eq_some_iff.1 h
    exact ⟨write_num _ hi d (sum_ok _ _ d hd), k.format.write_lt d⟩
  · obtain ⟨d, hd, rfl⟩ := Option.map_eq_some_iff.1 h
    exact ⟨write_num _ hi d (product_ok _ _ d hd), k.format.write_lt d⟩
  · obtain ⟨d, hd, rfl⟩ := Option.map_eq_some_iff.1 h
    exact ⟨write_num _ hi d (quotient_ok _ _ _ d hd), k.format.write_lt d⟩
end Go.Proofs.Ytonofklhapfdpaa.Ref

