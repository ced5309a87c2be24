/-
  The plain law of IntsStand: of two numbers one is below the other, or they are the same, by the program's own relations.
-/
import Derived.Test.YtajmjmnlapplaaaDoorPIntsx11
import Derived.Test.YtajmjmnlapplaaaDoorPureA
import Derived.OpenShut
namespace Go.Proofs.YtajmjmnlapplaaaDoor.Pure
open Go.RowKit Go.Proofs.YtajmjmnlapplaaaDoor.PInts Go.Proofs.YtajmjmnlapplaaaDoorW.PrintWords Go.Proofs.YtajmjmnlapplaaaDoorW.PrintLast

theorem awake_at (k : Nat) (h : 20 ≤ k) : bodkinlaw02_awake.f k = some true := at_rounds (bodkinlaw02_awake.mono) h awake_ok

theorem stand_round (k : Nat) (n op a b : Int) (h : R n) (ho : op = 3 ∨ op = 4) (a0 : 0 ≤ a) (a1 : a < 18446744073709551616) (b0 : 0 ≤ b) (b1 : b < 18446744073709551616) :
    bodkinlaw02_IntsStand.l0 (k + 3) n a b (a % pw n == b % pw n) (a % pw n != b % pw n) op = bodkinlaw02_IntsStand.l0 (k + 1) n a b (a % pw n == b % pw n) (a % pw n != b % pw n) (op + 1) := by
  have hw : wrap64 (op + 1) = op + 1 := by unfold wrap64; omega
  have hw2 : wrap64 (op + 2) = op + 2 := by unfold wrap64; omega
  have hw4 : wrap64 (op + 4) = op + 4 := by unfold wrap64; omega
  have hw6 : wrap64 (op + 6) = op + 6 := by unfold wrap64; omega
  have hj : ∀ y0 y1, bodkinlaw02_IntsStand.j1 (k + 2) n a b y0 y1 op false = bodkinlaw02_IntsStand.l0 (k + 1) n a b y0 y1 (op + 1) := by
    intro y0 y1
    simp only [bodkinlaw02_IntsStand.j1, Bool.false_eq_true, if_false, hw]
  rw [show k + 3 = (k + 2) + 1 from rfl]
  conv => lhs; unfold bodkinlaw02_IntsStand.l0
  rw [if_pos (by omega), hw2, hw4, hw6]
  rw [rel_yes (k + 1) n op a b h (by omega) (by omega) a0 a1 b0 b1, rel_yes (k + 1) n (op + 2) a b h (by omega) (by omega) a0 a1 b0 b1, rel_yes (k + 1) n (op + 4) a b h (by omega) (by omega) a0 a1 b0 b1,
    rel_yes (k + 1) n (op + 6) a b h (by omega) (by omega) a0 a1 b0 b1, rel_yes (k + 1) n op b a h (by omega) (by omega) b0 b1 a0 a1]
  simp only [Option.bind_some]
  have ca := cut_bounds n a
  have cb := cut_bounds n b
  have hp := pw_pos n
  generalize a % pw n = x at *
  generalize b % pw n = y at *
  have hsg : sg n x = sg n y ↔ x = y := by
    constructor
    · unfold sg
      generalize pw n = p at *
      intro e
      split at e <;> split at e <;> omega
    · intro e; rw [e]
  rcases ho with rfl | rfl
  · simp only [show relI n 3 x y = decide (sg n x < sg n y) from rfl, show relI n (3 + 2) x y = decide (sg n x > sg n y) from rfl, show relI n (3 + 4) x y = decide (sg n x ≤ sg n y) from rfl,
      show relI n (3 + 6) x y = decide (sg n x ≥ sg n y) from rfl, show relI n 3 y x = decide (sg n y < sg n x) from rfl]
    generalize sg n x = X at *
    generalize sg n y = Y at *
    rcases Int.lt_trichotomy X Y with hl | hl | hl
    · have hne : ¬ x = y := fun e => by have := hsg.2 e; omega
      have e1 : (x == y) = false := by simp [hne]
      have e2 : (x != y) = true := by simp [hne]
      rw [e1, e2, decide_eq_true hl, decide_eq_false (show ¬ X > Y by omega), decide_eq_true (show X ≤ Y by omega), decide_eq_false (show ¬ X ≥ Y by omega)]
      simp [hj]
    · have he := hsg.1 hl
      have e1 : (x == y) = true := by simp [he]
      have e2 : (x != y) = false := by simp [he]
      rw [e1, e2, decide_eq_false (show ¬ X < Y by omega), decide_eq_false (show ¬ X > Y by omega), decide_eq_true (show X ≤ Y by omega), decide_eq_true (show X ≥ Y by omega)]
      simp [hj]
    · have hne : ¬ x = y := fun e => by have := hsg.2 e; omega
      have e1 : (x == y) = false := by simp [hne]
      have e2 : (x != y) = true := by simp [hne]
      rw [e1, e2, decide_eq_false (show ¬ X < Y by omega), decide_eq_true (show X > Y by omega), decide_eq_false (show ¬ X ≤ Y by omega), decide_eq_true (show X ≥ Y by omega)]
      simp [hj]
  · simp only [show relI n 4 x y = decide (x < y) from rfl, show relI n (4 + 2) x y = decide (x > y) from rfl, show relI n (4 + 4) x y = decide (x ≤ y) from rfl,
      show relI n (4 + 6) x y = decide (x ≥ y) from rfl, show relI n 4 y x = decide (y < x) from rfl]
    rcases Int.lt_trichotomy x y with hl | hl | hl
    · have hne : ¬ x = y := by omega
      have e1 : (x == y) = false := by simp [hne]
      have e2 : (x != y) = true := by simp [hne]
      rw [e1, e2, decide_eq_true hl, decide_eq_false (show ¬ x > y by omega), decide_eq_true (show x ≤ y by omega), decide_eq_false (show ¬ x ≥ y by omega)]
      simp [hj]
    · have e1 : (x == y) = true := by simp [hl]
      have e2 : (x != y) = false := by simp [hl]
      rw [e1, e2, decide_eq_false (show ¬ x < y by omega), decide_eq_false (show ¬ x > y by omega), decide_eq_true (show x ≤ y by omega), decide_eq_true (show x ≥ y by omega)]
      simp [hj]
    · have hne : ¬ x = y := by omega
      have e1 : (x == y) = false := by simp [hne]
      have e2 : (x != y) = true := by simp [hne]
      rw [e1, e2, decide_eq_false (show ¬ x < y by omega), decide_eq_true (show x > y by omega), decide_eq_false (show ¬ x ≤ y by omega), decide_eq_true (show x ≥ y by omega)]
      simp [hj]

theorem IntsStand : bodkinlaw02_IntsStand.Pure := by
  intro n a b hn ha hb
  have ha := bounds_u64 ha
  have hb := bounds_u64 hb
  refine ⟨21, ?_⟩
  unfold bodkinlaw02_IntsStand.f
  rw [awake_at 21 (by omega)]
  simp only [Option.bind_some, if_true]
  by_cases h : R n
  · rw [rel_yes 20 n 1 a b h (by omega) (by omega) ha.1 (by omega) hb.1 (by omega), rel_yes 20 n 2 a b h (by omega) (by omega) ha.1 (by omega) hb.1 (by omega)]
    simp only [Option.bind_some]
    rw [if_pos True.intro]
    show bodkinlaw02_IntsStand.l0 (18 + 3) n a b (a % pw n == b % pw n) (a % pw n != b % pw n) 3 = some true
    rw [stand_round 18 n 3 a b h (by omega) ha.1 (by omega) hb.1 (by omega)]
    show bodkinlaw02_IntsStand.l0 (16 + 3) n a b (a % pw n == b % pw n) (a % pw n != b % pw n) 4 = some true
    rw [stand_round 16 n 4 a b h (by omega) ha.1 (by omega) hb.1 (by omega)]
    rfl
  · rw [rel_no 20 n 1 a b (fun x => h x.1), rel_no 20 n 2 a b (fun x => h x.1)]
    rfl

end Go.Proofs.YtajmjmnlapplaaaDoor.Pure
