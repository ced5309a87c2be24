/-
  The contract of the reference's Bin: what any two come to, as the closed form 'binI'.
  The program's Bin and the reference's come to the same.
-/
import Derived.Test.YtajmjmnlapplaaaDoorA4
import Derived.Test.YtajmjmnlapplaaaDoorA3
import Derived.OpenShut
namespace Go.Proofs.YtajmjmnlapplaaaDoor.PInts
set_option linter.unusedVariables false
open Go.RowKit Go.Proofs.YtajmjmnlapplaaaDoor.Pure Go.Proofs.YtajmjmnlapplaaaDoor.RB Go.Proofs.YtajmjmnlapplaaaDoorW.PrintWords
instance decOk (n op : Int) : Decidable (Ok n op) := by unfold Ok R; infer_instance
def bodkinref02_Bin.f (a0 : Int) (a1 : Int) (a2 : Int) (a3 : Int) : Option (Int × Int) :=
  if 0 ≤ a2 ∧ a2 < 18446744073709551616 ∧ 0 ≤ a3 ∧ a3 < 18446744073709551616 then some (if Ok a0 a1 then binI a0 a1 (a2 % pw a0) (a3 % pw a0) else (0, 1)) else none
theorem bodkinref02_Bin.calls (a0 : Int) (a1 : Int) (a2 : Int) (a3 : Int) (r1 : Int) (r2 : Int) (w : World) (h : bodkinref02_Bin.f a0 a1 a2 a3 = some (r1, r2)) :
    Calls Tryd.prog 17 #[.int .i64 a0, .int .i64 a1, .int .u64 a2, .int .u64 a3] w fun e w' => e = .returned (.tuple #[.int .u64 r1, .int .i64 r2]) ∧ Below w.heap.size w w' := by
  unfold bodkinref02_Bin.f at h
  by_cases hb : 0 ≤ a2 ∧ a2 < 18446744073709551616 ∧ 0 ≤ a3 ∧ a3 < 18446744073709551616
  · rw [if_pos hb] at h
    obtain ⟨h0, h1, h2, h3⟩ := hb
    have h := Option.some.inj h
    by_cases hO : Ok a0 a1
    · rw [if_pos hO] at h
      obtain ⟨e1, e2⟩ : (binI a0 a1 (a2 % pw a0) (a3 % pw a0)).1 = r1 ∧ (binI a0 a1 (a2 % pw a0) (a3 % pw a0)).2 = r2 := by rw [h]; exact ⟨rfl, rfl⟩
      subst e1; subst e2
      obtain ⟨hR, o1, o2, o3⟩ := hO
      have : a1 = 1 ∨ a1 = 2 ∨ a1 = 3 ∨ a1 = 4 ∨ a1 = 5 ∨ a1 = 6 ∨ a1 = 7 ∨ a1 = 8 ∨ a1 = 9 ∨ a1 = 10 ∨ a1 = 11 ∨ a1 = 12 ∨ a1 = 13 ∨ a1 = 14 ∨ a1 = 15 ∨ a1 = 16 ∨ a1 = 17 ∨ a1 = 18 ∨ a1 = 19 ∨ a1 = 20 ∨ a1 = 21 ∨ a1 = 22 ∨ a1 = 23 ∨ a1 = 24 ∨ a1 = 25 := by omega
      rcases this with rfl | rfl | rfl | rfl | rfl | rfl | rfl | rfl | rfl | rfl | rfl | rfl | rfl | rfl | rfl | rfl | rfl | rfl | rfl | rfl | rfl | rfl | rfl | rfl | rfl
      · exact rb1 a0 a2 a3 w hR h0 h1 h2 h3
      · exact rb2 a0 a2 a3 w hR h0 h1 h2 h3
      · exact rb3 a0 a2 a3 w hR h0 h1 h2 h3
      · exact rb4 a0 a2 a3 w hR h0 h1 h2 h3
      · exact rb5 a0 a2 a3 w hR h0 h1 h2 h3
      · exact rb6 a0 a2 a3 w hR h0 h1 h2 h3
      · exact rb7 a0 a2 a3 w hR h0 h1 h2 h3
      · exact rb8 a0 a2 a3 w hR h0 h1 h2 h3
      · exact rb9 a0 a2 a3 w hR h0 h1 h2 h3
      · exact rb10 a0 a2 a3 w hR h0 h1 h2 h3
      · exact rb11 a0 a2 a3 w hR h0 h1 h2 h3
      · exact rb12 a0 a2 a3 w hR h0 h1 h2 h3
      · exact rb13 a0 a2 a3 w hR h0 h1 h2 h3
      · exact rb14 a0 a2 a3 w hR h0 h1 h2 h3
      · exact rb15 a0 a2 a3 w hR h0 h1 h2 h3
      · exact rb16 a0 a2 a3 w hR h0 h1 h2 h3
      · exact rb17 a0 a2 a3 w hR h0 h1 h2 h3
      · exact rb18 a0 a2 a3 w hR h0 h1 h2 h3
      · exact rb19 a0 a2 a3 w hR h0 h1 h2 h3
      · exact rb20 a0 a2 a3 w hR h0 h1 h2 h3
      · exact rb21 a0 a2 a3 w hR h0 h1 h2 h3
      · exact rb22 a0 a2 a3 w hR h0 h1 h2 h3
      · exact rb23 a0 a2 a3 w hR h0 h1 h2 h3
      · exact rb24 a0 a2 a3 w hR h0 h1 h2 h3
      · exact rb25 a0 a2 a3 w hR (o3 rfl) h0 h1 h2 h3
    · rw [if_neg hO] at h
      obtain ⟨e1, e2⟩ : (0 : Int) = r1 ∧ (1 : Int) = r2 := by cases h; exact ⟨rfl, rfl⟩
      subst e1; subst e2
      by_cases hR : R a0
      · by_cases l1 : a1 < 1
        · exact rb_low a0 a1 a2 a3 w hR l1
        by_cases l2 : a1 > 25
        · exact rb_high a0 a1 a2 a3 w hR l2
        have h25 : a1 = 25 ∧ a0 ≠ 16 := Classical.byContradiction fun x => hO ⟨hR, by omega, by omega, fun e => Classical.byContradiction fun y => x ⟨e, y⟩⟩
        obtain ⟨rfl, hne⟩ := h25
        exact rb_odd a0 a2 a3 w hR hne
      · exact rb_wrong a0 a1 a2 a3 w hR
  · rw [if_neg hb] at h
    cases h
theorem bodkinref02_Bin.yes (a0 : Int) (a1 : Int) (a2 : Int) (a3 : Int) (h : Ok a0 a1) (h0 : 0 ≤ a2) (h1 : a2 < 18446744073709551616) (h2 : 0 ≤ a3) (h3 : a3 < 18446744073709551616) : bodkinref02_Bin.f a0 a1 a2 a3 = some (binI a0 a1 (a2 % pw a0) (a3 % pw a0)) := by
  unfold bodkinref02_Bin.f
  rw [if_pos ⟨h0, h1, h2, h3⟩, if_pos h]
theorem bodkinref02_Bin.no (a0 : Int) (a1 : Int) (a2 : Int) (a3 : Int) (h : ¬ Ok a0 a1) (h0 : 0 ≤ a2) (h1 : a2 < 18446744073709551616) (h2 : 0 ≤ a3) (h3 : a3 < 18446744073709551616) : bodkinref02_Bin.f a0 a1 a2 a3 = some (0, 1) := by
  unfold bodkinref02_Bin.f
  rw [if_pos ⟨h0, h1, h2, h3⟩, if_neg h]
end Go.Proofs.YtajmjmnlapplaaaDoor.PInts

namespace Go.Proofs.YtajmjmnlapplaaaDoor.Pure
set_option linter.unusedVariables false
open Go.RowKit Go.Proofs.YtajmjmnlapplaaaDoor.PInts Go.Proofs.YtajmjmnlapplaaaDoorW.PrintWords
theorem ev_then {g f : Nat → Option Bool} {r : Bool} (K : Nat) (h : ∀ k, K ≤ k → g (k + 1) = f k) (e : Ev f r) : Ev g r := by
  obtain ⟨J, hJ⟩ := e
  refine ⟨K + J + 1, fun k hk => ?_⟩
  obtain ⟨k, rfl⟩ : ∃ m, k = m + 1 := ⟨k - 1, by omega⟩
  rw [h k (by omega)]
  exact hJ k (by omega)
theorem agree (n op a b : Int) (a0 : 0 ≤ a) (a1 : a < 18446744073709551616) (b0 : 0 ≤ b) (b1 : b < 18446744073709551616) :
    ∃ r, (∀ k, 4 ≤ k → ints_Bin.f k n op a b = some r) ∧ bodkinref02_Bin.f n op a b = some r := by
  by_cases h : Ok n op
  · exact ⟨_, fun k hk => bin_yes k n op a b h a0 a1 b0 b1 hk, bodkinref02_Bin.yes n op a b h a0 a1 b0 b1⟩
  · refine ⟨(0, 1), fun k hk => ?_, bodkinref02_Bin.no n op a b h a0 a1 b0 b1⟩
    obtain ⟨k, rfl⟩ : ∃ m, k = m + 1 := ⟨k - 1, by omega⟩
    exact bin_no k n op a b h
end Go.Proofs.YtajmjmnlapplaaaDoor.Pure
