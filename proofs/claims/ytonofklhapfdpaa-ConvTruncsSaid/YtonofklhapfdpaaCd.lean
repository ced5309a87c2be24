/-
  The walk of the reference's Convert, and the law ConvWords. No condition but that a word is one.
-/
import Derived.Test.YtonofklhapfdpaaCc
import Derived.Test.YtonofklhapfdpaaRefD
namespace Go.Proofs.Ytonofklhapfdpaa.Pure
set_option linter.unusedVariables false
set_option linter.unusedSimpArgs false
open Go.RowKit Go.Proofs.Ytonofklhapfdpaa.PConv Go.Proofs.Ytonofklhapfdpaa.Fl Go.Proofs.Ytonofklhapfdpaa.Ref Go.Proofs.YtonofklhapfdpaaW.PrintWords Go.Proofs.YtonofklhapfdpaaW.PrintLast

theorem i_f32 (x : Int) (w : World) : (convert 2 57 (.int .i64 x)).run Try.prog w = .ok (.float .f32 (Ieee.single.nearest (decide (x < 0)) x.natAbs 0)) w := by
  simp [convert, run_underlying Try.underlying2, run_underlying Try.underlying57, Conv.intToFloat]
  rfl
theorem i_f64 (x : Int) (w : World) : (convert 2 51 (.int .i64 x)).run Try.prog w = .ok (.float .f64 (Ieee.double.nearest (decide (x < 0)) x.natAbs 0)) w := by
  simp [convert, run_underlying Try.underlying2, run_underlying Try.underlying51, Conv.intToFloat]
  rfl
theorem u_f32 (x : Nat) (w : World) : (convert 22 57 (.int .u64 (x : Int))).run Try.prog w = .ok (.float .f32 (Ieee.single.nearest false x 0)) w := by
  simp [convert, run_underlying Try.underlying22, run_underlying Try.underlying57, Conv.intToFloat]
  rfl
theorem u_f64 (x : Nat) (w : World) : (convert 22 51 (.int .u64 (x : Int))).run Try.prog w = .ok (.float .f64 (Ieee.double.nearest false x 0)) w := by
  simp [convert, run_underlying Try.underlying22, run_underlying Try.underlying51, Conv.intToFloat]
  rfl
theorem near_word (f : Ieee.Format) (neg : Bool) (m : Nat) (p : Int) : ∃ r, r ≤ f.infRung ∧ f.nearest neg m p = f.word neg r := by
  by_cases h : m = 0
  · subst h; exact ⟨0, Nat.zero_le _, nearest_zero f neg p⟩
  · exact ⟨_, Nat.min_le_right _ _, nearest_eq f neg m p h⟩
theorem near_num (f : Ieee.Format) (hi : f.binade ≤ f.infRung) (neg : Bool) (m : Nat) (p : Int) : f.order (f.nearest neg m p) (f.nearest neg m p) = some .eq ∧ f.nearest neg m p < 2 * f.signWeight := by
  obtain ⟨r, hr, e⟩ := near_word f neg m p
  have hw := word_rung f neg r hr
  have hl := inf_lt f
  have hb : 0 < f.binade := pw_pos _
  rw [e]
  refine ⟨?_, ?_⟩
  · rw [order_key f _ _ hi (by rw [hw.1]; exact hr) (by rw [hw.1]; exact hr)]
    congr 1
    have cmp : ∀ a b : Int, compare a b = if a < b then .lt else if a = b then .eq else .gt := fun a b => rfl
    rw [cmp, if_neg (Int.lt_irrefl _), if_pos rfl]
  · unfold Ieee.Format.word
    split <;> omega
theorem convF_s (fr dst : Int) (hf : Rt fr) (a : Nat) (ha : a < 18446744073709551616) : convF fr dst true a = (fmtOf dst).nearest (decide (sgnOf fr (wOf fr a) < 0)) (sgnOf fr (wOf fr a)).natAbs 0 := by
  unfold convF
  have hw := w_lt hf a ha
  by_cases h : sgnOf fr (wOf fr a) < 0
  · rw [if_pos ⟨rfl, h⟩, decide_eq_true h]
  · rw [if_neg (fun x => h x.2), decide_eq_false h]
    have : (sgnOf fr (wOf fr a)).natAbs = wOf fr a := by
      unfold sgnOf at h ⊢
      rcases hf with rfl | rfl
      · rw [if_pos rfl] at h ⊢
        have := hw.1 rfl
        split at h <;> rename_i c
        · rw [if_pos c]; omega
        · omega
      · rw [if_neg (by decide)] at h ⊢
        split at h <;> rename_i c
        · rw [if_pos c]; omega
        · omega
    rw [this]
theorem convF_u (fr dst : Int) (a : Nat) : convF fr dst false a = (fmtOf dst).nearest false (wOf fr a) 0 := by
  unfold convF; rw [if_neg (fun x => by cases x.1)]
theorem cutR (n : Int) (h : Rt n) (a : Nat) (w : World) : Calls Try.prog 36 #[.int .i64 n, .int .u64 (a : Int)] w fun e w' => e = .returned (.int .u64 ((wOf n a : Nat) : Int)) ∧ w = w' := by
  rcases h with rfl | rfl
  · have e : wOf 32 (a : Int) = a % 4294967296 := by unfold wOf; rw [if_pos rfl]; omega
    rw [e]; exact cut32 a w
  · have e : wOf 64 (a : Int) = a := by unfold wOf; rw [if_neg (by decide)]; omega
    rw [e]; exact cut64 a w
theorem signedR (n : Int) (h : Rt n) (A : Nat) (h32 : n = 32 → A < 4294967296) (h64 : A < 18446744073709551616) (w : World) : Calls Try.prog 37 #[.int .i64 n, .int .u64 (A : Int)] w (SgQ (sgnOf n A) w) := by
  rcases h with rfl | rfl
  · exact signed32 A (h32 rfl) w
  · exact signed64 A h64 w
theorem b32_c (neg : Bool) (m : Nat) (w : World) : Calls Try.prog 38 #[.float .f32 (Ieee.single.nearest neg m 0)] w fun e w' => e = .returned (.int .u64 (Ieee.single.nearest neg m 0 : Nat)) ∧ w = w' := by
  have h := near_num Ieee.single bin_single neg m 0
  rw [s_sgn] at h
  exact (B32_num _ h.1 (by omega) w).mono fun _ _ x => ⟨x.1, x.2.symm⟩
theorem b64_c (neg : Bool) (m : Nat) (w : World) : Calls Try.prog 39 #[.float .f64 (Ieee.double.nearest neg m 0)] w fun e w' => e = .returned (.int .u64 (Ieee.double.nearest neg m 0 : Nat)) ∧ w = w' :=
  (B64_num _ (near_num Ieee.double bin_double neg m 0).1 w).mono fun _ _ x => ⟨x.1, x.2.symm⟩
def ConvQ (r : Nat) (w : World) (e : Ending) (w' : World) : Prop := e = .returned (.tuple #[.int .u64 (r : Int), .int .i64 0]) ∧ w = w'
set_option maxRecDepth 100000 in
theorem refConv (fr dst : Int) (hf : Rt fr) (ht : Rt dst) (signed : Bool) (a : Nat) (ha : a < 18446744073709551616) (w : World) :
    Calls Try.prog 17 #[.int .i64 fr, .int .i64 dst, .bool signed, .int .u64 (a : Int)] w (ConvQ (convF fr dst signed a) w) := by
  have hw := w_lt hf a ha
  have HC := Lib.hid (fun w => cutR fr hf a w)
  obtain ⟨A, hA⟩ : ∃ A, A = wOf fr (a : Int) := ⟨_, rfl⟩
  have HS := Lib.hid (fun w => signedR fr hf A (by rw [hA]; exact hw.1) (by rw [hA]; exact hw.2) w)
  obtain ⟨s, hs⟩ : ∃ s, s = sgnOf fr A := ⟨_, rfl⟩
  cases signed
  · have he := convF_u fr dst a
    rw [← hA] at HC he
    rw [he]
    have HBA := Lib.hid (fun w => b32_c false A w)
    have HBB := Lib.hid (fun w => b64_c false A w)
    have c1 := fun w => u_f32 A w
    have c2 := fun w => u_f64 A w
    clear hw HS hA hs he ha
    rcases hf with rfl | rfl <;> rcases ht with rfl | rfl
    all_goals
      go_enter Try.func17, Try.ntmps17
      go_wp2_with (first | (go_at_call 36; refine (HC.out _).mono ?_; rintro e w1 ⟨rfl, rfl⟩) | (go_at_call 38; refine (HBA.out _).mono ?_; rintro e w1 ⟨rfl, rfl⟩) | (go_at_call 39; refine (HBB.out _).mono ?_; rintro e w1 ⟨rfl, rfl⟩))
      go_ret2
      exact ⟨rfl, rfl⟩
  · have he := convF_s fr dst hf a ha
    rw [← hA] at HC he
    rw [← hs] at HS he
    rw [he]
    have HBA := Lib.hid (fun w => b32_c (decide (s < 0)) s.natAbs w)
    have HBB := Lib.hid (fun w => b64_c (decide (s < 0)) s.natAbs w)
    have c1 := fun w => i_f32 s w
    have c2 := fun w => i_f64 s w
    obtain ⟨sb, hsb⟩ : ∃ b, b = decide (s < 0) := ⟨_, rfl⟩
    obtain ⟨sn, hsn⟩ : ∃ b, b = s.natAbs := ⟨_, rfl⟩
    rw [← hsb, ← hsn] at HBA HBB ⊢
    simp only [← hsb, ← hsn] at c1 c2
    clear hw hA hs he ha hsb hsn
    rcases hf with rfl | rfl <;> rcases ht with rfl | rfl
    all_goals
      go_enter Try.func17, Try.ntmps17
      go_wp2_with (first | (go_at_call 36; refine (HC.out _).mono ?_; rintro e w1 ⟨rfl, rfl⟩) | (go_at_call 37; refine (HS.out _).mono ?_; rintro e w1 ⟨rfl, rfl⟩) | (go_at_call 38; refine (HBA.out _).mono ?_; rintro e w1 ⟨rfl, rfl⟩) | (go_at_call 39; refine (HBB.out _).mono ?_; rintro e w1 ⟨rfl, rfl⟩))
      go_ret2
      exact ⟨rfl, rfl⟩
end Go.Proofs.Ytonofklhapfdpaa.Pure
