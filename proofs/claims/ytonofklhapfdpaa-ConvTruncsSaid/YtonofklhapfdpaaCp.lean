/-
  The reference's Trunc answers as truncF, where nothing is over; the law ConvTruncs.
-/
import Derived.Test.YtonofklhapfdpaaCl
import Derived.Test.YtonofklhapfdpaaCm
import Derived.Test.YtonofklhapfdpaaCo
namespace Go.Proofs.Ytonofklhapfdpaa.Pure
set_option linter.unusedVariables false
set_option linter.unusedSimpArgs false
open Go.RowKit Go.Proofs.Ytonofklhapfdpaa.PConv Go.Proofs.Ytonofklhapfdpaa.Fl Go.Proofs.Ytonofklhapfdpaa.Ref Go.Proofs.YtonofklhapfdpaaW.PrintWords Go.Proofs.YtonofklhapfdpaaW.PrintLast
open Ieee (Datum)

theorem v4_fix {fr : Int} (hf : Rt fr) {a : Int} (h : rungOf (fmtOf fr) (wOf fr a) ≤ (fmtOf fr).infRung) (w : World) : Calls Try.prog 42 #[.int .i64 fr, .int .u64 a] w (FQ (xOf fr a) w) :=
  (value4 fr a w).mono fun e w' q => by
    obtain ⟨x, k, h1, h2, hv⟩ := q.out
    rw [val_x h hf hv] at h1
    exact ⟨k, h1, h2⟩
theorem mt_fix {x v : Nat} (h : mfun 6 x = some v) (w : World) : Calls Try.prog 43 #[.float .f64 x] w (FQ v w) :=
  (m_trunc x w).mono fun e w' q => by
    obtain ⟨y, k, h1, h2, h3, _⟩ := q.out
    rw [h3 v h] at h1
    exact ⟨k, h1, h2⟩
theorem tr_eq {r r' : Int × Int} {w : World} {e : Ending} {w' : World} (h : r = r') (q : TrQ r w e w') : TrQ r' w e w' := h ▸ q

theorem tr_inf (fr t : Int) (hf : Rt fr) (ht : Rt t) (s b : Bool) (a : Nat) (hi : rungOf (fmtOf fr) (wOf fr a) = (fmtOf fr).infRung) (w : World) :
    Calls Try.prog 20 #[.int .i64 fr, .int .i64 t, .bool s, .bool b, .int .u64 (a : Int)] w (TrQ (overF t s b (negOf (fmtOf fr) (wOf fr a))) w) := by
  have hx := x_val (Nat.le_of_eq hi) hf
  obtain ⟨v, hm, hr⟩ := trunc_inf hf hx hi
  have N := order_self_num _ (val_num hx (Nat.le_of_eq hi)).2.1
  have HX := fun w => v4_fix hf (Nat.le_of_eq hi) w
  have HM := fun w => mt_fix hm w
  generalize negOf (fmtOf fr) (wOf fr (a : Int)) = neg at *
  have hbg : neg = true ∨ (!neg) = true := by cases neg <;> decide
  rcases ht with rfl | rfl <;> cases s
  · exact (over_32_0 fr hf b neg (!neg) hbg a _ v HX HM N (lt_I hr c_0) (ge_I hr k32) w).mono fun _ _ q => tr_eq (by cases b <;> cases neg <;> decide) q
  · exact (over_32_1 fr hf b neg (!neg) hbg a _ v HX HM N (lt_I hr m31k) (ge_I hr k31) w).mono fun _ _ q => tr_eq (by cases b <;> cases neg <;> decide) q
  · exact (over_64_0 fr hf b neg (!neg) hbg a _ v HX HM N (lt_I hr c_0) (ge_I hr k64) w).mono fun _ _ q => tr_eq (by cases b <;> cases neg <;> decide) q
  · exact (over_64_1 fr hf b neg (!neg) hbg a _ v HX HM N (lt_I hr m63k) (ge_I hr k63) w).mono fun _ _ q => tr_eq (by cases b <;> cases neg <;> decide) q

theorem tr_over (fr t : Int) (hf : Rt fr) (ht : Rt t) (s b : Bool) (a x v T : Nat) (neg : Bool) (HX : ∀ w, Calls Try.prog 42 #[.int .i64 fr, .int .u64 (a : Int)] w (FQ x w)) (HM : ∀ w, Calls Try.prog 43 #[.float .f64 x] w (FQ v w))
    (N : (FloatKind.f64.format.order x x != some Ordering.eq) = false) (hv : IsT v neg T) (ho : mostI t s neg < (T : Int)) (w : World) :
    Calls Try.prog 20 #[.int .i64 fr, .int .i64 t, .bool s, .bool b, .int .u64 (a : Int)] w (TrQ (overF t s b neg) w) := by
  have e31 : (2 : Int) ^ ((32 : Int) - 1).toNat = 2147483648 := by decide
  have e32 : (2 : Int) ^ (32 : Int).toNat = 4294967296 := by decide
  have e63 : (2 : Int) ^ ((64 : Int) - 1).toNat = 9223372036854775808 := by decide
  have e64 : (2 : Int) ^ (64 : Int).toNat = 18446744073709551616 := by decide
  have hbg : neg = true ∨ (!neg) = true := by cases neg <;> decide
  unfold mostI at ho
  rcases ht with rfl | rfl <;> cases s
  · refine (over_32_0 fr hf b neg (!neg) hbg a _ v HX HM N (lt_T hv c_0 ?_) (ge_T hv k32 ?_) w).mono fun _ _ q => tr_eq (by cases b <;> cases neg <;> decide) q
    all_goals (cases neg <;> simp only [Bool.false_eq_true, if_false, if_true, e31, e32, e63, e64] at ho <;> simp only [sg, Bool.not_true, Bool.not_false, Bool.false_eq_true, if_false, if_true] <;> symm <;> first | (refine decide_eq_true ?_; omega) | (refine decide_eq_false ?_; omega))
  · refine (over_32_1 fr hf b neg (!neg) hbg a _ v HX HM N (lt_T hv m31k ?_) (ge_T hv k31 ?_) w).mono fun _ _ q => tr_eq (by cases b <;> cases neg <;> decide) q
    all_goals (cases neg <;> simp only [Bool.false_eq_true, if_false, if_true, e31, e32, e63, e64] at ho <;> simp only [sg, Bool.not_true, Bool.not_false, Bool.false_eq_true, if_false, if_true] <;> symm <;> first | (refine decide_eq_true ?_; omega) | (refine decide_eq_false ?_; omega))
  · refine (over_64_0 fr hf b neg (!neg) hbg a _ v HX HM N (lt_T hv c_0 ?_) (ge_T hv k64 ?_) w).mono fun _ _ q => tr_eq (by cases b <;> cases neg <;> decide) q
    all_goals (cases neg <;> simp only [Bool.false_eq_true, if_false, if_true, e31, e32, e63, e64] at ho <;> simp only [sg, Bool.not_true, Bool.not_false, Bool.false_eq_true, if_false, if_true] <;> symm <;> first | (refine decide_eq_true ?_; omega) | (refine decide_eq_false ?_; omega))
  · refine (over_64_1 fr hf b neg (!neg) hbg a _ v HX HM N (lt_T hv m63k ?_) (ge_T hv k63 ?_) w).mono fun _ _ q => tr_eq (by cases b <;> cases neg <;> decide) q
    all_goals (cases neg <;> simp only [Bool.false_eq_true, if_false, if_true, e31, e32, e63, e64] at ho <;> simp only [sg, Bool.not_true, Bool.not_false, Bool.false_eq_true, if_false, if_true] <;> symm <;> first | (refine decide_eq_true ?_; omega) | (refine decide_eq_false ?_; omega))

theorem sgf (B : Nat) : sg false B = B := rfl
theorem sgt (B : Nat) : sg true B = -(B : Int) := rfl
theorem ltN {v c A B : Nat} {s t : Bool} (hv : IsT v s A) (hc : IsT c t B) (h : sg t B ≤ sg s A) : (FloatKind.f64.format.order v c == some Ordering.lt) = false := lt_T hv hc (decide_eq_false (by omega)).symm
theorem ltY {v c A B : Nat} {s t : Bool} (hv : IsT v s A) (hc : IsT c t B) (h : sg s A < sg t B) : (FloatKind.f64.format.order v c == some Ordering.lt) = true := lt_T hv hc (decide_eq_true h).symm
theorem geN {v c A B : Nat} {s t : Bool} (hv : IsT v s A) (hc : IsT c t B) (h : sg s A < sg t B) : (FloatKind.f64.format.order v c == some Ordering.gt || FloatKind.f64.format.order v c == some Ordering.eq) = false := ge_T hv hc (decide_eq_false (by omega)).symm
theorem geY {v c A B : Nat} {s t : Bool} (hv : IsT v s A) (hc : IsT c t B) (h : sg t B ≤ sg s A) : (FloatKind.f64.format.order v c == some Ordering.gt || FloatKind.f64.format.order v c == some Ordering.eq) = true := ge_T hv hc (decide_eq_true h).symm
theorem wrap_of (z : Int) (Z : Nat) (h : Z < 18446744073709551616) (e : z = Z ∨ z + 18446744073709551616 = Z) : IntKind.u64.wrap z = (Z : Int) := by rw [IntKind.wrap_u64]; omega

theorem trunc_top (m : Nat) (p : Int) (hm : m < 9007199254740992) (h : 9223372036854775808 ≤ (if p < 0 then m / 2 ^ (-p).toNat else m * 2 ^ p.toNat)) :
    ∃ M, (if p < 0 then m / 2 ^ (-p).toNat else m * 2 ^ p.toNat) = M * 2 ^ 11 := by
  by_cases c : p < 0
  · rw [if_pos c] at h
    have := Nat.div_le_self m (2 ^ (-p).toNat)
    omega
  · rw [if_neg c] at h ⊢
    by_cases q : p.toNat < 11
    · have h1 : 2 ^ p.toNat ≤ 2 ^ 10 := Nat.pow_le_pow_right (by decide) (by omega)
      have h2 := Nat.mul_le_mul_left m h1
      have e : (2 : Nat) ^ 10 = 1024 := by decide
      rw [e] at h2
      omega
    · refine ⟨m * 2 ^ (p.toNat - 11), ?_⟩
      have e : p.toNat = p.toNat - 11 + 11 := by omega
      rw [Nat.mul_assoc, ← Nat.pow_add, ← e]

theorem tr_in (fr t : Int) (hf : Rt fr) (ht : Rt t) (s b : Bool) (a x v T : Nat) (neg : Bool) (HX : ∀ w, Calls Try.prog 42 #[.int .i64 fr, .int .u64 (a : Int)] w (FQ x w)) (HM : ∀ w, Calls Try.prog 43 #[.float .f64 x] w (FQ v w))
    (N : (FloatKind.f64.format.order x x != some Ordering.eq) = false) (hv : IsT v neg T) (htop : 9223372036854775808 ≤ T → ∃ M, T = M * 2 ^ 11) (ho : ¬ mostI t s neg < (T : Int)) (w : World) :
    Calls Try.prog 20 #[.int .i64 fr, .int .i64 t, .bool s, .bool b, .int .u64 (a : Int)] w (TrQ (cutI t neg T, 0) w) := by
  have e31 : (2 : Int) ^ ((32 : Int) - 1).toNat = 2147483648 := by decide
  have e32 : (2 : Int) ^ (32 : Int).toNat = 4294967296 := by decide
  have e63 : (2 : Int) ^ ((64 : Int) - 1).toNat = 9223372036854775808 := by decide
  have e64 : (2 : Int) ^ (64 : Int).toNat = 18446744073709551616 := by decide
  have bf := fun B => sgf B
  have bt := fun B => sgt B
  unfold mostI at ho
  by_cases hz : neg = true ∧ T ≠ 0
  · obtain ⟨rfl, h0⟩ := hz
    cases s
    · simp only [Bool.false_eq_true, if_false, if_true] at ho
      omega
    · simp only [if_true] at ho
      have hs := bt T
      unfold cutI
      rw [if_pos ⟨rfl, h0⟩]
      rcases ht with rfl | rfl
      · rw [e31] at ho
        rw [e32]
        have hr : ((4294967296 - T : Nat) : Int) = 4294967296 - (T : Int) := by omega
        rw [← hr]
        refine neg_32_1 fr hf b a x v HX HM N (ltN hv m31k (by rw [hs, bt]; omega)) (geN hv k31 (by rw [hs, bf]; omega)) (ltY hv c_0 (by rw [hs, bf]; omega)) _ (18446744073709551616 - T) (wrap_of _ _ (by omega) (.inr (by rw [hs]; omega))) (i_v hv (by rw [hs]; omega) (by rw [hs]; omega)) _ (fun w => ?_) w
        have := cut32 (18446744073709551616 - T) w
        have e : (18446744073709551616 - T) % 4294967296 = 4294967296 - T := by omega
        rw [e] at this; exact this
      · rw [e63] at ho
        rw [e64]
        have hr : ((18446744073709551616 - T : Nat) : Int) = 18446744073709551616 - (T : Int) := by omega
        rw [← hr]
        exact neg_64_1 fr hf b a x v HX HM N (ltN hv m63k (by rw [hs, bt]; omega)) (geN hv k63 (by rw [hs, bf]; omega)) (ltY hv c_0 (by rw [hs, bf]; omega)) _ (18446744073709551616 - T) (wrap_of _ _ (by omega) (.inr (by rw [hs]; omega))) (i_v hv (by rw [hs]; omega) (by rw [hs]; omega)) _ (fun w => cut64 _ w) w
  · have hs : sg neg T = (T : Int) := by
      unfold sg
      split
      · rename_i c
        have : T = 0 := Classical.byContradiction fun x => hz ⟨c, x⟩
        subst this; rfl
      · rfl
    unfold cutI
    rw [if_neg hz]
    have hT : (t = 32 → s = true → T < 2147483648 ∨ (neg = true ∧ T = 0)) ∧ (t = 64 → s = true → T < 9223372036854775808) ∧ (t = 32 → T < 4294967296) ∧ T < 18446744073709551616 := by
      by_cases hn : neg = true
      · have : T = 0 := Classical.byContradiction fun x => hz ⟨hn, x⟩
        subst this
        exact ⟨fun _ _ => .inl (by decide), fun _ _ => by decide, fun _ => by decide, by decide⟩
      · rw [if_neg hn, if_neg hn] at ho
        rcases ht with rfl | rfl <;> cases s
        · rw [if_neg Bool.false_ne_true, e32] at ho
          refine ⟨fun x y => ?_, fun x y => ?_, fun x => ?_, ?_⟩ <;> first | (cases y; done) | omega | (exact .inl (by omega))
        · rw [if_pos rfl, e31] at ho
          refine ⟨fun x y => ?_, fun x y => ?_, fun x => ?_, ?_⟩ <;> first | (cases y; done) | omega | (exact .inl (by omega))
        · rw [if_neg Bool.false_ne_true, e64] at ho
          refine ⟨fun x y => ?_, fun x y => ?_, fun x => ?_, ?_⟩ <;> first | (cases y; done) | omega | (exact .inl (by omega))
        · rw [if_pos rfl, e63] at ho
          refine ⟨fun x y => ?_, fun x y => ?_, fun x => ?_, ?_⟩ <;> first | (cases y; done) | omega | (exact .inl (by omega))
    obtain ⟨g1, g2, g3, g4⟩ := hT
    clear ho
    rcases ht with rfl | rfl <;> cases s
    · have g := g3 rfl
      exact mid_32_0 fr hf b a x v HX HM N (ltN hv c_0 (by rw [hs, bf]; omega)) (geN hv k32 (by rw [hs, bf]; omega)) (geN hv k63 (by rw [hs, bf]; omega)) _ T (wrap_of _ _ g4 (.inl hs)) (i_v hv (by rw [hs]; omega) (by rw [hs]; omega)) w
    · have g : T < 2147483648 := by rcases g1 rfl rfl with h | h <;> omega
      exact mid_32_1 fr hf b a x v HX HM N (ltN hv m31k (by rw [hs, bt]; omega)) (geN hv k31 (by rw [hs, bf]; omega)) (ltN hv c_0 (by rw [hs, bf]; omega)) (geN hv k63 (by rw [hs, bf]; omega)) _ T (wrap_of _ _ g4 (.inl hs)) (i_v hv (by rw [hs]; omega) (by rw [hs]; omega)) w
    · by_cases c : T < 9223372036854775808
      · exact mid_64_0 fr hf b a x v HX HM N (ltN hv c_0 (by rw [hs, bf]; omega)) (geN hv k64 (by rw [hs, bf]; omega)) (geN hv k63 (by rw [hs, bf]; omega)) _ T (wrap_of _ _ g4 (.inl hs)) (i_v hv (by rw [hs]; omega) (by rw [hs]; omega)) w
      · have hn : neg = false := by
          cases neg
          · rfl
          · exact absurd ⟨rfl, by omega⟩ hz
        subst hn
        obtain ⟨M, hM⟩ := htop (by omega)
        have e11 : (2 : Nat) ^ 11 = 2048 := by decide
        have hv' := hv
        rw [hM] at hv'
        rw [e11] at hM
        obtain ⟨y, y1, y2⟩ := sub_T hv' (by omega) (by omega)
        have hy := sgf ((M - 4503599627370496) * 2 ^ 11)
        rw [e11] at hy y2
        exact top_64_0 fr hf b a x v HX HM N (ltN hv c_0 (by rw [hs, bf]; omega)) (geN hv k64 (by rw [hs, bf]; omega)) (geY hv k63 (by rw [hs, bf]; omega)) y (fun t w => run_float_arith w .sub t .f64 _ _ _ y1) _ ((M - 4503599627370496) * 2048) T
          (wrap_of _ _ (by omega) (.inl hy)) (wrap_of _ _ g4 (.inl (by omega))) (i_v y2 (by rw [hy]; omega) (by rw [hy]; omega)) w
    · have g := g2 rfl rfl
      exact mid_64_1 fr hf b a x v HX HM N (ltN hv m63k (by rw [hs, bt]; omega)) (geN hv k63 (by rw [hs, bf]; omega)) (ltN hv c_0 (by rw [hs, bf]; omega)) (geN hv k63 (by rw [hs, bf]; omega)) _ T (wrap_of _ _ g4 (.inl hs)) (i_v hv (by rw [hs]; omega) (by rw [hs]; omega)) w

theorem refTrunc (fr t : Int) (hf : Rt fr) (ht : Rt t) (s b : Bool) (a : Nat) (w : World) :
    Calls Try.prog 20 #[.int .i64 fr, .int .i64 t, .bool s, .bool b, .int .u64 (a : Int)] w (TrQ (truncF fr t s b a) w) := by
  unfold truncF
  by_cases hn : nanW (fmtOf fr) (wOf fr (a : Int)) = true
  · rw [if_pos hn]
    exact tr_nan fr t hf ht s b a (of_decide_eq_true hn) w
  · rw [if_neg hn]
    have hle : rungOf (fmtOf fr) (wOf fr (a : Int)) ≤ (fmtOf fr).infRung := Nat.le_of_not_lt fun x => hn (decide_eq_true x)
    by_cases hi : rungOf (fmtOf fr) (wOf fr (a : Int)) = (fmtOf fr).infRung
    · rw [if_pos (.inl hi)]
      exact tr_inf fr t hf ht s b a hi w
    · have hx := x_val hle hf
      have hlt : rungOf (fmtOf fr) (wOf fr (a : Int)) < (fmtOf fr).infRung := by omega
      obtain ⟨v, hm, hv⟩ := trunc_val hf hx hlt
      have NN := order_self_num _ (val_num hx hle).2.1
      have HX := fun w => v4_fix hf hle w
      have HM := fun w => mt_fix hm w
      by_cases ho : mostI t s (negOf (fmtOf fr) (wOf fr a)) < (truncT (fmtOf fr) (rungOf (fmtOf fr) (wOf fr a)) : Int)
      · rw [if_pos (.inr ho)]
        exact tr_over fr t hf ht s b a _ v _ _ HX HM NN hv ho w
      · rw [if_neg (fun x => x.elim hi ho)]
        refine tr_in fr t hf ht s b a _ v _ _ HX HM NN hv (fun h => ?_) ho w
        unfold truncT at h ⊢
        exact trunc_top _ _ (pl_le fr hf _ hlt).2 h

theorem truncs_walk (a0 a1 : Int) (s b : Bool) (a4 : Int) (w : World) (w0 : (Lit.int .i64 a0).wf = true) (w1 : (Lit.int .i64 a1).wf = true) (w4 : (Lit.int .u64 a4).wf = true) :
    Calls Try.prog 8 #[.int .i64 a0, .int .i64 a1, .bool s, .bool b, .int .u64 a4] w fun e w' => e = .returned (.bool true) ∧ Below w.heap.size w w' := by
  have q := bounds_u64 w4
  obtain ⟨a, rfl⟩ := Int.eq_ofNat_of_zero_le q.1
  have ha : a < 18446744073709551616 := by omega
  by_cases h : Rt a0 ∧ Rt a1
  · exact truncs_law a0 a1 s b _ _ _ (fun w => trunc_c a0 a1 h.1 h.2 s b a ha _ _ rfl w) (fun w => refTrunc a0 a1 h.1 h.2 s b a w) w
  · exact truncs_law a0 a1 s b _ 0 1 (fun w => conv_Trunc.calls 1 a0 a1 s b _ _ _ w (by rw [wrong_Trunc 0 a0 a1 h s b a])) (fun w => tr_wrong a0 a1 h s b _ w) w
end Go.Proofs.Ytonofklhapfdpaa.Pure
