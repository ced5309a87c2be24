/-
  The walk of the reference's S (chapter 1). No condition but that the reader's block is one, and that a reader with an error has no bytes.
-/
import Derived.Test.YtnpiicnhdpldaaaRfD
namespace Go.Proofs.Ytnpiicnhdpldaaa.Rf
set_option linter.unusedVariables false
set_option linter.unusedSimpArgs false
open Go.RowKit Go.Proofs.YtnpiicnhdpldaaaW.PrintWords Go.Proofs.Ytnpiicnhdpldaaa.PLeb Go.Proofs.Ytnpiicnhdpldaaa.Lb Go.Proofs.Ytnpiicnhdpldaaa.Pure

/-- X divided by a power of two. -/
def dv (X : Int) (K : Nat) : Int := X / ((2 ^ K : Nat) : Int)
theorem dv_succ (X : Int) (K : Nat) : dv X (K + 1) = dv X K / 2 := by
  unfold dv
  rw [Int.ediv_ediv_of_nonneg (Int.natCast_nonneg _), Nat.pow_succ]; rfl
theorem dv_fit {X : Int} {b : Nat} : (dv X b = 0 ∨ dv X b = -1) ↔ (-((2 ^ b : Nat) : Int) ≤ X ∧ X < ((2 ^ b : Nat) : Int)) := by
  have h := div_fit X b
  rw [show (2 : Int) ^ b = ((2 ^ b : Nat) : Int) by simp] at h
  simp only [bne_iff_ne, ne_eq] at h
  show (X / ((2 ^ b : Nat) : Int) = 0 ∨ X / ((2 ^ b : Nat) : Int) = -1) ↔ _
  constructor
  · intro q
    exact Classical.byContradiction fun n => by
      obtain ⟨n0, n1⟩ := h.2 n
      rcases q with q | q
      · exact n0 q
      · exact n1 q
  · intro q
    exact Classical.byContradiction fun n => h.1 ⟨fun a => n (.inl a), fun a => n (.inr a)⟩ q
theorem dv_up {X : Int} {b : Nat} (h : dv X b = 0 ∨ dv X b = -1) : ∀ d, dv X (b + d) = dv X b
  | 0 => rfl
  | d + 1 => by rw [← Nat.add_assoc, dv_succ, dv_up h d]; rcases h with h | h <;> rw [h] <;> rfl
/-- What the rounds keep: above so many bits all are the sign. -/
def SgnTo (X : Int) (b K : Nat) : Prop := max K b = 70 ∨ dv X (max K b) = -(dv X (b - 1) % 2)
theorem sgn_next {X : Int} {b K : Nat} (h1 : 1 ≤ b) (h2 : b ≤ 64) (hX : dv X 69 = 0 ∨ dv X 69 = -1) (h : SgnTo X b (K + 1)) (hK : K + 1 ≤ 70) (hn : b ≤ K → dv X K % 2 = dv X (b - 1) % 2) : SgnTo X b K := by
  by_cases hb : b ≤ K
  · have h0 := hn hb
    unfold SgnTo at *
    rw [show max (K + 1) b = K + 1 by omega] at h
    rw [show max K b = K by omega]
    right
    rcases h with h | h
    · obtain rfl : K = 69 := by omega
      rcases hX with q | q <;> rw [q] at h0 ⊢ <;> omega
    · rw [dv_succ] at h; omega
  · unfold SgnTo at *
    rw [show max K b = max (K + 1) b by omega]; exact h
theorem sgn_out {X : Int} {b : Nat} (h1 : 1 ≤ b) (h2 : b ≤ 64) (h : SgnTo X b 0) : -((2 ^ (b - 1) : Nat) : Int) ≤ X ∧ X < ((2 ^ (b - 1) : Nat) : Int) := by
  refine dv_fit.1 ?_
  unfold SgnTo at h
  rw [show max 0 b = b by omega] at h
  rcases h with h | h
  · omega
  · rw [show b = (b - 1) + 1 by omega, dv_succ] at h
    rw [show b - 1 + 1 - 1 = b - 1 by omega] at h
    omega
theorem sgn_bad {X : Int} {b K : Nat} (h1 : 1 ≤ b) (hb : b ≤ K) (h : dv X K % 2 ≠ dv X (b - 1) % 2) : ¬ (-((2 ^ (b - 1) : Nat) : Int) ≤ X ∧ X < ((2 ^ (b - 1) : Nat) : Int)) := by
  intro hf
  have h0 := dv_fit.2 hf
  have := dv_up h0 (K - (b - 1))
  rw [show b - 1 + (K - (b - 1)) = K by omega] at this
  rw [this] at h
  exact h rfl
theorem z_out {X z : Int} {b : Nat} (h1 : 1 ≤ b) (h2 : b ≤ 64) (h : z = X / ((2 ^ 0 : Nat) : Int) % ((2 ^ (64 - 0) : Nat) : Int)) (hf : -((2 ^ (b - 1) : Nat) : Int) ≤ X ∧ X < ((2 ^ (b - 1) : Nat) : Int)) : wrap64 z = X := by
  have hle := pw_le (show b - 1 ≤ 63 by omega)
  simp only [Nat.pow_zero, Nat.sub_zero] at h
  have h64 : (2 : Nat) ^ 64 = 18446744073709551616 := by decide
  have h63 : (2 : Nat) ^ 63 = 9223372036854775808 := by decide
  rw [h64] at h
  rw [h63] at hle
  generalize 2 ^ (b - 1) = B at *
  unfold wrap64
  omega
theorem sv_69 (p : List Int) (c : Int) (hc0 : 0 ≤ c) (hc1 : c < 128) (hl : p.length < 10) : dv (sv p c) 69 = 0 ∨ dv (sv p c) 69 = -1 := by
  obtain ⟨s1, s2, s3⟩ := sv_sign p c hc0 hc1
  refine dv_fit.2 ?_
  have hle : 2 ^ (7 * p.length + 6) ≤ 2 ^ 69 := pw_le (by omega)
  generalize 2 ^ (7 * p.length + 6) = A at *
  generalize 2 ^ 69 = B at *
  by_cases h : 64 ≤ c
  · have := s2 h; omega
  · have := s3 (by omega); omega

set_option maxRecDepth 100000 in
theorem s_none (g : Nat) (bits : Int) (l : List Int) (y e : Int) (w : World) (H : Rdr 44 w g l y) (hy : y = 0 ∨ l = []) (he : e ≠ 0) (hg : grpF bits l y = ([], [], e)) :
    Calls Try.prog 24 #[.pointer (some ⟨g, 0, none⟩), .int .i64 bits] w (UQ4 .i64 g w (0, [], e)) := by
  have HH := Lib.hid H
  have HY := Lib.hid hy
  have HG := Lib.hid hg
  have heb : (e == 0) = false := by simpa using he
  clear H hy hg he
  go_enter Try.func24, Try.ntmps24
  go_wp2_with (go_at_call 35; refine (group_q g bits l y _ HH.out HY.out _ _ _ HG.out).mono ?_; intro e1 w1 hgr; obtain ⟨A1, c1, rfl, hown, hrd, ht⟩ := hgr.out; clear hgr; have hc1 := cells44 hrd; have HQ := Lib.hid hrd; have HT := Lib.hid ht; clear hrd ht hown)
  go_ret
  exact ⟨rfl, HQ.out, HT.out⟩

def SRel (w1 : World) (X : Int) (b : Nat) (n k : Value) (wr : World) : Prop :=
  ∃ (K : Nat) (z : Int), k = .int .i64 ((K : Int) - 1) ∧ K ≤ 70 ∧ n = .int .u64 z ∧ z = X / ((2 ^ K : Nat) : Int) % ((2 ^ (64 - K) : Nat) : Int) ∧ SgnTo X b K ∧ Below w1.heap.size w1 wr
set_option maxHeartbeats 1000000 in
set_option maxRecDepth 100000 in
theorem s_some (g : Nat) (b : Nat) (l : List Int) (w : World) (H : Rdr 44 w g l 0) (h1 : 1 ≤ b) (h2 : b ≤ 64) (q t : List Int) (X : Int) (hbit : ∀ k : Nat, bodkinref01_bit.f 9 q (k : Int) true = some (dv X k % 2)) (hX : dv X 69 = 0 ∨ dv X 69 = -1) (hg : grpF b l 0 = (q, t, 0)) :
    Calls Try.prog 24 #[.pointer (some ⟨g, 0, none⟩), .int .i64 (b : Int)] w (UQ4 .i64 g w (if -((2 ^ (b - 1) : Nat) : Int) ≤ X ∧ X < ((2 ^ (b - 1) : Nat) : Int) then (X, t, 0) else (0, [], 11))) := by
  have HH := Lib.hid H
  have HG := Lib.hid hg
  have HB := Lib.hid hbit
  have HX := Lib.hid hX
  obtain ⟨σ, hσ⟩ : ∃ σ, σ = dv X (b - 1) % 2 := ⟨_, rfl⟩
  have HS := Lib.hid hσ
  have HBS : Hid (bodkinref01_bit.f 9 q ((b : Int) - 1) true = some σ) := Lib.hid (by rw [hσ, ← hbit, show ((b : Int) - 1) = ((b - 1 : Nat) : Int) by omega])
  obtain ⟨R, hR⟩ : ∃ R, R = (if -((2 ^ (b - 1) : Nat) : Int) ≤ X ∧ X < ((2 ^ (b - 1) : Nat) : Int) then (X, t, (0 : Int)) else (0, [], 11)) := ⟨_, rfl⟩
  rw [← hR]
  have HRR := Lib.hid hR
  clear H hg hR hbit hX hσ
  go_enter Try.func24, Try.ntmps24
  go_wp2_with (go_at_call 35; refine (group_q g (b : Int) l 0 _ HH.out (.inl rfl) q t 0 HG.out).mono ?_; intro e1 w1 hgr; obtain ⟨A1, c1, rfl, hown, hrd, ht⟩ := hgr.out; clear hgr; have hc1 := cells44 hrd; have HQ := Lib.hid hrd; have HT := Lib.hid ht; have HO := Lib.hid hown; clear hrd ht hown)
  go_loopw [6, 7] (SRel w1 X b) (fun n k _ => (intOf k + 1).toNat)
  case atStart => exact ⟨70, 0, rfl, by omega, rfl, by simp, .inl (by omega), Below.refl _ _⟩
  case round =>
    obtain ⟨K, z, rfl, hK, rfl, hz, hv, hbl⟩ := hrel
    have HZ := Lib.hid hz
    have HW := Lib.hid hv
    have HBL := Lib.hid hbl
    have HQR := Lib.hid (rdr_below HQ.out hbl)
    have HRD := Lib.hid ((own_reads' HO.out).below hbl)
    clear hz hv hbl
    cases K with
    | zero =>
      have q1 := Lib.hid (sgn_out h1 h2 HW.out)
      have q2 := z_out h1 h2 HZ.out q1.out
      go_wp2
      go_ret
      have hR := HRR.out
      rw [if_pos q1.out] at hR
      rw [hR]
      exact ⟨by simp [q2], HQR.out, HT.out.trans (Turn.of_below HBL.out g)⟩
    | succ K =>
      have eK : ((K + 1 : Nat) : Int) - 1 = (K : Int) := by omega
      rw [eK]
      obtain ⟨β, hβ⟩ : ∃ β, β = dv X K % 2 := ⟨_, rfl⟩
      have hbit := HB.out K
      rw [← hβ] at hbit
      have HBIT := Lib.hid hbit
      have HN0 := Lib.hid hβ
      clear hbit
      rcases (show β = 0 ∨ β = 1 by omega) with rfl | rfl
      all_goals
        clear hβ
      · by_cases he : (0 : Int) = σ
        · have hne : ((0 : Int) != σ) = false := by simpa using he
          have HE := Lib.hid he
          clear he
          go_wp2_with (first | (go_at_call 36; refine (bit_c A1 c1 q (K : Int) true _ _ HRD.out (own_cap HO.out) HBIT.out).mono ?_; rintro e w2 ⟨rfl, hb⟩; have HBL2 := Lib.hid (HBL.out.trans (hb.mono HBL.out.size)); have HRD2 := Lib.hid (HRD.out.below hb); have HQ2 := Lib.hid (rdr_below HQR.out hb); clear hb HBIT) | (go_at_call 36; refine (bit_c A1 c1 q ((b : Int) - 1) true _ _ HRD2.out (own_cap HO.out) HBS.out).mono ?_; rintro e w3 ⟨rfl, hb⟩; have HBL3 := Lib.hid (HBL2.out.trans (hb.mono HBL2.out.size)); have HQ3 := Lib.hid (rdr_below HQ2.out hb); clear hb HRD2))
          all_goals
            refine ⟨⟨K, _, rfl, by omega, rfl, ?_, sgn_next h1 h2 HX.out HW.out hK (fun _ => by rw [← HN0.out, ← HS.out]; exact HE.out), by first | exact HBL3.out | exact HBL2.out⟩, by simp [intOf] <;> omega⟩
            first
              | exact z_high (by omega) HZ.out
              | (have := z_next (β := 0) (by omega) HZ.out (by show dv X K % 2 = 0; exact HN0.out.symm); rw [Int.add_zero] at this; exact this)
        · have hne : ((0 : Int) != σ) = true := by simpa using he
          have HE := Lib.hid he
          clear he
          go_wp2_with (first | (go_at_call 36; refine (bit_c A1 c1 q (K : Int) true _ _ HRD.out (own_cap HO.out) HBIT.out).mono ?_; rintro e w2 ⟨rfl, hb⟩; have HBL2 := Lib.hid (HBL.out.trans (hb.mono HBL.out.size)); have HRD2 := Lib.hid (HRD.out.below hb); have HQ2 := Lib.hid (rdr_below HQR.out hb); clear hb HBIT) | (go_at_call 36; refine (bit_c A1 c1 q ((b : Int) - 1) true _ _ HRD2.out (own_cap HO.out) HBS.out).mono ?_; rintro e w3 ⟨rfl, hb⟩; have HBL3 := Lib.hid (HBL2.out.trans (hb.mono HBL2.out.size)); have HQ3 := Lib.hid (rdr_below HQ2.out hb); clear hb HRD2) | (go_at_call 32; refine (fail_11 g _ _ HQ3.out).mono ?_; rintro e w4 ⟨rfl, hrd, ht⟩; have HQ4 := Lib.hid hrd; have HT4 := Lib.hid ht; clear hrd ht))
          all_goals first
            | (refine ⟨⟨K, _, rfl, by omega, rfl, ?_, sgn_next h1 h2 HX.out HW.out hK (fun q => absurd q (by omega)), HBL2.out⟩, by simp [intOf] <;> omega⟩
               (have := z_next (β := 0) (by omega) HZ.out (by show dv X K % 2 = 0; exact HN0.out.symm); rw [Int.add_zero] at this; exact this))
            | (go_ret
               have hR := HRR.out
               rw [if_neg (sgn_bad h1 (by omega) (by rw [← HN0.out, ← HS.out]; exact HE.out))] at hR
               rw [hR]
               exact ⟨rfl, HQ4.out, (HT.out.trans (Turn.of_below HBL3.out g)).trans HT4.out⟩)
      · by_cases he : (1 : Int) = σ
        · have hne : ((1 : Int) != σ) = false := by simpa using he
          have HE := Lib.hid he
          clear he
          go_wp2_with (first | (go_at_call 36; refine (bit_c A1 c1 q (K : Int) true _ _ HRD.out (own_cap HO.out) HBIT.out).mono ?_; rintro e w2 ⟨rfl, hb⟩; have HBL2 := Lib.hid (HBL.out.trans (hb.mono HBL.out.size)); have HRD2 := Lib.hid (HRD.out.below hb); have HQ2 := Lib.hid (rdr_below HQR.out hb); clear hb HBIT) | (go_at_call 36; refine (bit_c A1 c1 q ((b : Int) - 1) true _ _ HRD2.out (own_cap HO.out) HBS.out).mono ?_; rintro e w3 ⟨rfl, hb⟩; have HBL3 := Lib.hid (HBL2.out.trans (hb.mono HBL2.out.size)); have HQ3 := Lib.hid (rdr_below HQ2.out hb); clear hb HRD2))
          all_goals
            refine ⟨⟨K, _, rfl, by omega, rfl, ?_, sgn_next h1 h2 HX.out HW.out hK (fun _ => by rw [← HN0.out, ← HS.out]; exact HE.out), by first | exact HBL3.out | exact HBL2.out⟩, by simp [intOf] <;> omega⟩
            first
              | exact z_high (by omega) HZ.out
              | (have := z_next (β := 1) (by omega) HZ.out (by show dv X K % 2 = 1; exact HN0.out.symm); exact this)
        · have hne : ((1 : Int) != σ) = true := by simpa using he
          have HE := Lib.hid he
          clear he
          go_wp2_with (first | (go_at_call 36; refine (bit_c A1 c1 q (K : Int) true _ _ HRD.out (own_cap HO.out) HBIT.out).mono ?_; rintro e w2 ⟨rfl, hb⟩; have HBL2 := Lib.hid (HBL.out.trans (hb.mono HBL.out.size)); have HRD2 := Lib.hid (HRD.out.below hb); have HQ2 := Lib.hid (rdr_below HQR.out hb); clear hb HBIT) | (go_at_call 36; refine (bit_c A1 c1 q ((b : Int) - 1) true _ _ HRD2.out (own_cap HO.out) HBS.out).mono ?_; rintro e w3 ⟨rfl, hb⟩; have HBL3 := Lib.hid (HBL2.out.trans (hb.mono HBL2.out.size)); have HQ3 := Lib.hid (rdr_below HQ2.out hb); clear hb HRD2) | (go_at_call 32; refine (fail_11 g _ _ HQ3.out).mono ?_; rintro e w4 ⟨rfl, hrd, ht⟩; have HQ4 := Lib.hid hrd; have HT4 := Lib.hid ht; clear hrd ht))
          all_goals first
            | (refine ⟨⟨K, _, rfl, by omega, rfl, ?_, sgn_next h1 h2 HX.out HW.out hK (fun q => absurd q (by omega)), HBL2.out⟩, by simp [intOf] <;> omega⟩
               (have := z_next (β := 1) (by omega) HZ.out (by show dv X K % 2 = 1; exact HN0.out.symm); exact this))
            | (go_ret
               have hR := HRR.out
               rw [if_neg (sgn_bad h1 (by omega) (by rw [← HN0.out, ← HS.out]; exact HE.out))] at hR
               rw [hR]
               exact ⟨rfl, HQ4.out, (HT.out.trans (Turn.of_below HBL3.out g)).trans HT4.out⟩)
theorem S_r (g : Nat) (bits : Int) (l : List Int) (y : Int) (w : World) (H : Rdr 44 w g l y) (hy : y = 0 ∨ l = []) :
    Calls Try.prog 24 #[.pointer (some ⟨g, 0, none⟩), .int .i64 bits] w (UQ4 .i64 g w (sF bits l y)) := by
  have hx : ∀ x ∈ l, 0 ≤ x ∧ x < 256 := by obtain ⟨A, c, hb, hc, hr, hx, hl⟩ := H.out; exact hx
  rcases grp_cases bits l y hx with ⟨e, he, hg, hu, hs⟩ | ⟨rfl, h1, h2, p, c, t, rfl, p1, p2, p3, hl, hg⟩
  · rw [hs]; exact s_none g bits l y e w H hy he hg
  · obtain ⟨b, rfl⟩ := Int.eq_ofNat_of_zero_le (show 0 ≤ bits by omega)
    have hm : mostP (b : Int) ≤ 10 := by unfold mostP; omega
    have := s_some g b _ w H (by omega) (by omega) _ t (sv p c) (fun k => bit_s p c k p1 p2 p3 (by omega)) (sv_69 p c p2 p3 (by omega)) hg
    rw [sF_whole h1 h2 p1 p2 p3 hl]
    exact this
end Go.Proofs.Ytnpiicnhdpldaaa.Rf
