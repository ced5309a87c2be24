/-
  A small integer as a float, and back; the walk of the law ConvBack. No condition but that a word is one.
-/
import Derived.Test.YtonofklhapfdpaaCg
import Derived.Test.YtonofklhapfdpaaCe
namespace Go.Proofs.Ytonofklhapfdpaa.Pure
set_option linter.unusedVariables false
set_option linter.unusedSimpArgs false
open Go.ChangeShapes Go.WideShapes Go.RowKit Go.Proofs.Ytonofklhapfdpaa.PConv Go.Proofs.Ytonofklhapfdpaa.Fl Go.Proofs.Ytonofklhapfdpaa.Ref Go.Proofs.YtonofklhapfdpaaW.PrintWords Go.Proofs.YtonofklhapfdpaaW.PrintLast

/-- A small whole number as a double: its parts. -/
theorem int_parts (neg : Bool) (m : Nat) (h0 : m ≠ 0) (hm : m ≤ 2147483648) :
    rungOf Ieee.double (Ieee.double.nearest neg m 0) < Ieee.double.infRung ∧ negOf Ieee.double (Ieee.double.nearest neg m 0) = neg ∧ truncT Ieee.double (rungOf Ieee.double (Ieee.double.nearest neg m 0)) = m := by
  have hl : m.log2 ≤ 31 := by
    have : m < 2 ^ 32 := by have : (2 : Nat) ^ 32 = 4294967296 := by decide
                            omega
    have := (Nat.log2_lt h0).2 this
    omega
  have hL : lastOf Ieee.double m 0 = (m.log2 : Int) - 52 := by
    unfold lastOf; rw [d_frac, d_least]; omega
  have hself := Nat.log2_self_le h0
  have hlt2 : m < 2 ^ (m.log2 + 1) := Nat.lt_log2_self
  have hsh : (0 - lastOf Ieee.double m 0).toNat = 52 - m.log2 := by rw [hL]; omega
  have hbig : m * 2 ^ (52 - m.log2) < 9007199254740992 := by
    have h1 : m * 2 ^ (52 - m.log2) < 2 ^ (m.log2 + 1) * 2 ^ (52 - m.log2) := Nat.mul_lt_mul_of_pos_right hlt2 (pw_pos _)
    rw [← Nat.pow_add, show m.log2 + 1 + (52 - m.log2) = 53 by omega] at h1
    have : (2 : Nat) ^ 53 = 9007199254740992 := by decide
    omega
  have hlt : (lastOf Ieee.double m 0 - Ieee.double.leastPlace).toNat * Ieee.double.binade + m * 2 ^ (0 - lastOf Ieee.double m 0).toNat < Ieee.double.infRung := by
    rw [hsh, hL, d_least, d_bin, d_inf]
    have : ((m.log2 : Int) - 52 - -1074).toNat ≤ 1053 := by omega
    have := Nat.mul_le_mul_right 4503599627370496 this
    omega
  obtain ⟨q1, q2, q3, q4⟩ := exact_read Ieee.double neg m 0 h0 (by rw [d_frac]; omega) (by rw [d_least]; decide) hlt bin_double
  have hr : rungOf Ieee.double (Ieee.double.nearest neg m 0) < Ieee.double.infRung := by rw [q3]; exact hlt
  have hrd := read_num Ieee.double (Ieee.double.nearest neg m 0) hr
  rw [q2] at hrd
  injection hrd with r1 r2 r3
  refine ⟨hr, q4, ?_⟩
  unfold truncT
  rw [← r2, ← r3, hL, if_pos (by omega), ← hL, hsh]
  have : (-(lastOf Ieee.double m 0)).toNat = 52 - m.log2 := by rw [hL]; omega
  rw [this]
  exact Nat.mul_div_cancel _ (pw_pos _)
theorem w64 (x : Nat) : wOf 64 (x : Int) = x := by unfold wOf; rw [if_neg (by decide)]; omega
theorem back_int (n : Int) (h1 : -2147483648 ≤ n) (h2 : n ≤ 2147483647) (a : Nat) (ha : (a : Int) = n % 4294967296) :
    convF 32 64 true a < 18446744073709551616 ∧ truncF 64 32 true false (convF 32 64 true a) = ((a : Int), 0) ∧ ∃ d : Nat, truncF 64 64 true true (convF 32 64 true a) = ((d : Int), 0) ∧ IntKind.i64.wrap (d : Int) = n := by
  have hw : wOf 32 (a : Int) = a := by unfold wOf; rw [if_pos rfl]; omega
  have hs : sgnOf 32 a = n := by unfold sgnOf; rw [if_pos rfl]; split <;> omega
  rw [convF_s 32 64 (.inl rfl) a (by omega), hw, hs]
  have f64 : fmtOf 64 = Ieee.double := rfl
  rw [f64]
  have hlt := near_lt Ieee.double (decide (n < 0)) n.natAbs 0
  rw [d_sgn] at hlt
  refine ⟨by omega, ?_⟩
  by_cases h0 : n = 0
  · subst h0
    have ha0 : a = 0 := by omega
    subst ha0
    refine ⟨by decide +kernel, 0, by decide +kernel, by decide⟩
  · obtain ⟨q1, q2, q3⟩ := int_parts (decide (n < 0)) n.natAbs (by omega) (by omega)
    obtain ⟨neg, hneg⟩ : ∃ b, b = decide (n < 0) := ⟨_, rfl⟩
    rw [← hneg] at q1 q2 q3 ⊢
    have nn : nanW Ieee.double (Ieee.double.nearest neg n.natAbs 0) = false := by unfold nanW; rw [decide_eq_false (by omega)]
    unfold truncF
    rw [w64, f64, nn, if_neg Bool.false_ne_true, if_neg Bool.false_ne_true, q2, q3]
    have p31 : (2 : Int) ^ (32 - 1 : Int).toNat = 2147483648 := by decide
    have p63 : (2 : Int) ^ (64 - 1 : Int).toNat = 9223372036854775808 := by decide
    have p32 : (2 : Int) ^ (32 : Int).toNat = 4294967296 := by decide
    have p64 : (2 : Int) ^ (64 : Int).toNat = 18446744073709551616 := by decide
    have m32 : ¬ (rungOf Ieee.double (Ieee.double.nearest neg n.natAbs 0) = Ieee.double.infRung ∨ mostI 32 true neg < (n.natAbs : Int)) := by
      unfold mostI
      rw [if_pos rfl, p31]
      cases neg
      · have : ¬ n < 0 := of_decide_eq_false hneg.symm
        rw [if_neg Bool.false_ne_true]; omega
      · rw [if_pos rfl]; omega
    have m64 : ¬ (rungOf Ieee.double (Ieee.double.nearest neg n.natAbs 0) = Ieee.double.infRung ∨ mostI 64 true neg < (n.natAbs : Int)) := by
      unfold mostI
      rw [if_pos rfl, p63]
      cases neg
      · rw [if_neg Bool.false_ne_true]; omega
      · rw [if_pos rfl]; omega
    rw [if_neg m32, if_neg m64]
    unfold cutI
    cases neg
    · have hp : ¬ n < 0 := of_decide_eq_false hneg.symm
      rw [if_neg (fun x => by cases x.1), if_neg (fun x => by cases x.1)]
      refine ⟨by rw [show (n.natAbs : Int) = (a : Int) by omega], n.natAbs, rfl, ?_⟩
      rw [IntKind.wrap_i64]; omega
    · have hp : n < 0 := of_decide_eq_true hneg.symm
      rw [if_pos ⟨rfl, by omega⟩, if_pos ⟨rfl, by omega⟩, p32, p64]
      refine ⟨by rw [show 4294967296 - (n.natAbs : Int) = (a : Int) by omega], 18446744073709551616 - n.natAbs, ?_, ?_⟩
      · congr 1; omega
      · rw [IntKind.wrap_i64]; omega
theorem prom_c (a : Nat) (ha : a < 18446744073709551616) (w : World) : Calls Try.prog 13 #[.int .u64 (a : Int)] w fun e w' => e = .returned (.int .u64 (resR 32 64 a)) ∧ Below w.heap.size w w' :=
  conv_Promote.calls 4 (a : Int) _ w (by unfold conv_Promote.f; rw [c_resized 32 64 (.inl rfl) (.inr rfl) a ha 4 (Nat.le_refl _)]; rfl)
theorem dem_c (a : Nat) (ha : a < 18446744073709551616) (w : World) : Calls Try.prog 12 #[.int .u64 (a : Int)] w fun e w' => e = .returned (.int .u64 (resR 64 32 a)) ∧ Below w.heap.size w w' :=
  conv_Demote.calls 4 (a : Int) _ w (by unfold conv_Demote.f; rw [c_resized 64 32 (.inr rfl) (.inl rfl) a ha 4 (Nat.le_refl _)]; rfl)
theorem canonP_c (w : World) : Calls Try.prog 15 #[.int .i64 32] w fun e w' => e = .returned (.int .u64 (canon 32)) ∧ Below w.heap.size w w' :=
  floats_Canonical.calls 32 _ w (by rw [c_Canonical 32, if_pos (.inl rfl)])
theorem trunc_c (fr t : Int) (hf : Rt fr) (ht : Rt t) (s b : Bool) (a : Nat) (ha : a < 18446744073709551616) (r1 r2 : Int) (hr : truncF fr t s b a = (r1, r2)) (w : World) :
    Calls Try.prog 10 #[.int .i64 fr, .int .i64 t, .bool s, .bool b, .int .u64 (a : Int)] w fun e w' => e = .returned (.tuple #[.int .u64 r1, .int .i64 r2]) ∧ Below w.heap.size w w' :=
  conv_Trunc.calls 5 fr t s b (a : Int) r1 r2 w (by rw [c_Trunc fr t hf ht s b a ha 0, hr])
theorem kindR (a : Nat) (w : World) : Calls Try.prog 14 #[.int .i64 32, .int .u64 (a : Int)] w fun e w' => e = .returned (.int .i64 (kindF 32 a)) ∧ Below w.heap.size w w' :=
  (kind_right 32 (a : Int) w (.inl rfl)).mono fun _ _ h => ⟨h.1, h.2.below⟩
set_option maxHeartbeats 1000000 in
set_option maxRecDepth 100000 in
theorem back_law (a : Nat) (ha : a < 4294967296) (n : Int) (h1 : -2147483648 ≤ n) (h2 : n ≤ 2147483647) (w : World) :
    Calls Try.prog 4 #[.int .u32 (a : Int), .int .i32 n] w fun e w' => e = .returned (.bool true) ∧ Below w.heap.size w w' := by
  obtain ⟨P, hP, hPl, hD⟩ := back_float a ha _ rfl
  obtain ⟨av, hav⟩ : ∃ av : Nat, (av : Int) = n % 4294967296 := ⟨(n % 4294967296).toNat, by omega⟩
  obtain ⟨i1, i2, d, i3, i4⟩ := back_int n h1 h2 av hav
  obtain ⟨B, hB⟩ : ∃ B, B = convF 32 64 true av := ⟨_, rfl⟩
  have hp := fun w => prom_c a (by omega) w
  rw [hP] at hp
  have hd := fun w => dem_c P hPl w
  rw [hD] at hd
  have hc := fun w => progConv 32 64 (.inl rfl) (.inr rfl) true av (by omega) w
  have ht := fun w => trunc_c 64 32 (.inr rfl) (.inl rfl) true false _ i1 _ _ i2 w
  have hu := fun w => trunc_c 64 64 (.inr rfl) (.inr rfl) true true _ i1 _ _ i3 w
  rw [← hB] at hc ht hu
  have hk := fun w => kindR a w
  have HP := Lib.hid hp
  have HD := Lib.hid hd
  have HC := Lib.hid hc
  have HT := Lib.hid ht
  have HU := Lib.hid hu
  have hA : (a : Int) ≤ 4294967295 := by omega
  have hm : n % 4294967296 = (av : Int) := hav.symm
  have havb : (av : Int) ≤ 4294967295 := by omega
  have kg := (kind_ge 32 (.inl rfl) a).1
  rw [(single_lt a ha).1, show fmtOf 32 = Ieee.single from rfl] at kg
  obtain ⟨kd, hkd⟩ : ∃ kd, kd = kindF 32 (a : Int) := ⟨_, rfl⟩
  rw [← hkd] at hk kg
  have HK := Lib.hid hk
  clear hp hd hc ht hu hk hP hPl i1 i2 i3 hB hav hkd
  by_cases hn : nanW Ieee.single a = true
  · have hk4 : kd = 4 := kg.2 hn
    subst hk4
    rw [if_pos hn] at HD
    obtain ⟨cn, hcn⟩ : ∃ c, c = canon 32 := ⟨_, rfl⟩
    have HCN := Lib.hid (fun w => canonP_c w)
    rw [← hcn] at HD HCN
    clear hn kg hcn hD ha
    go_enter Try.func4, Try.ntmps4
    go_wp2_with (first | (go_at_call 9; refine (awake_c _).mono ?_; rintro e w1 ⟨rfl, hb⟩; have HB1 := Lib.hid hb; clear hb) | (go_at_call 13; refine (HP.out _).mono ?_; rintro e w2 ⟨rfl, hb⟩; have HB2 := Lib.hid (HB1.out.trans (hb.mono HB1.out.size)); clear hb) | (go_at_call 12; refine (HD.out _).mono ?_; rintro e w3 ⟨rfl, hb⟩; have HB3 := Lib.hid (HB2.out.trans (hb.mono HB2.out.size)); clear hb) | (go_at_call 14; refine (HK.out _).mono ?_; rintro e w4 ⟨rfl, hb⟩; have HB4 := Lib.hid (HB3.out.trans (hb.mono HB3.out.size)); clear hb) | (go_at_call 15; refine (HCN.out _).mono ?_; rintro e w5 ⟨rfl, hb⟩; have HB5 := Lib.hid (HB4.out.trans (hb.mono HB4.out.size)); clear hb) | (go_at_call 16; refine (HC.out _).mono ?_; rintro e w6 ⟨rfl, hb⟩; have HB6 := Lib.hid (HB5.out.trans (hb.mono HB5.out.size)); clear hb) | (go_at_call 10; ((with_reducible refine (HT.out _).mono ?_)); rintro e w7 ⟨rfl, hb⟩; have HB7 := Lib.hid (HB6.out.trans (hb.mono HB6.out.size)); clear hb) | (go_at_call 10; ((with_reducible refine (HU.out _).mono ?_)); rintro e w8 ⟨rfl, hb⟩; have HB8 := Lib.hid (HB7.out.trans (hb.mono HB7.out.size)); clear hb))
    go_ret
    exact ⟨by simp [i4], HB8.out⟩
  · have hk4 : (kd == 4) = false := beq_eq_false_iff_ne.2 (fun x => hn (kg.1 x))
    rw [if_neg hn] at HD
    clear hn kg hD ha
    go_enter Try.func4, Try.ntmps4
    go_wp2_with (first | (go_at_call 9; refine (awake_c _).mono ?_; rintro e w1 ⟨rfl, hb⟩; have HB1 := Lib.hid hb; clear hb) | (go_at_call 13; refine (HP.out _).mono ?_; rintro e w2 ⟨rfl, hb⟩; have HB2 := Lib.hid (HB1.out.trans (hb.mono HB1.out.size)); clear hb) | (go_at_call 12; refine (HD.out _).mono ?_; rintro e w3 ⟨rfl, hb⟩; have HB3 := Lib.hid (HB2.out.trans (hb.mono HB2.out.size)); clear hb) | (go_at_call 14; refine (HK.out _).mono ?_; rintro e w4 ⟨rfl, hb⟩; have HB5 := Lib.hid (HB3.out.trans (hb.mono HB3.out.size)); clear hb) | (go_at_call 16; refine (HC.out _).mono ?_; rintro e w6 ⟨rfl, hb⟩; have HB6 := Lib.hid (HB5.out.trans (hb.mono HB5.out.size)); clear hb) | (go_at_call 10; ((with_reducible refine (HT.out _).mono ?_)); rintro e w7 ⟨rfl, hb⟩; have HB7 := Lib.hid (HB6.out.trans (hb.mono HB6.out.size)); clear hb) | (go_at_call 10; ((with_reducible refine (HU.out _).mono ?_)); rintro e w8 ⟨rfl, hb⟩; have HB8 := Lib.hid (HB7.out.trans (hb.mono HB7.out.size)); clear hb))
    go_ret
    exact ⟨by simp [i4], HB8.out⟩
theorem back_walk (a0 a1 : Int) (w : World) (w0 : (Lit.int .u32 a0).wf = true) (w1 : (Lit.int .i32 a1).wf = true) : Calls Try.prog 4 #[.int .u32 a0, .int .i32 a1] w fun e w' => e = .returned (.bool true) ∧ Below w.heap.size w w' := by
  have q := bounds_u32 w0
  have r := bounds_i32 w1
  obtain ⟨a, rfl⟩ := Int.eq_ofNat_of_zero_le q.1
  exact back_law a (by omega) a1 r.1 r.2 w
end Go.Proofs.Ytonofklhapfdpaa.Pure
