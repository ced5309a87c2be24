/-
  The walk of the reference's U (chapter 1). No condition but that the reader's block is one, and that a reader with an error has no bytes.
-/
import Derived.Test.YtnpiicnhdpldaaaRfC
namespace Go.Proofs.Ytnpiicnhdpldaaa.Rf
set_option linter.unusedVariables false
set_option linter.unusedSimpArgs false
open Go.RowKit Go.Proofs.YtnpiicnhdpldaaaW.PrintWords Go.Proofs.Ytnpiicnhdpldaaa.PLeb Go.Proofs.Ytnpiicnhdpldaaa.Lb Go.Proofs.Ytnpiicnhdpldaaa.Pure

structure UQ4 (k : IntKind) (g : Nat) (w : World) (r : Int × List Int × Int) (e : Ending) (w' : World) : Prop where mk ::
  (out : e = .returned (.int k r.1) ∧ Rdr 44 w' g r.2.1 r.2.2 ∧ Turn w w' g)
theorem bit_c (A : Option Addr) (c : Nat) (l : List Int) (k : Int) (s : Bool) (r : Int) (w : World) (hr : ReadsInt w .i64 A l.length l) (hc : l.length ≤ c) (h : bodkinref01_bit.f 9 l k s = some r) :
    Calls Try.prog 36 #[.slice A l.length c, .int .i64 k, .bool s] w fun e w' => e = .returned (.int .i64 r) ∧ Below w.heap.size w w' :=
  (bodkinref01_bit.calls 9 A c l k s r w (Kd.C_of_reads (d := 0) hr) hc h).mono fun _ _ ⟨h1, h2⟩ => ⟨h1, h2.below⟩

set_option maxRecDepth 100000 in
theorem u_none (g : Nat) (bits : Int) (l : List Int) (y e : Int) (w : World) (H : Rdr 44 w g l y) (hy : y = 0 ∨ l = []) (he : e ≠ 0) (hg : grpF bits l y = ([], [], e)) :
    Calls Try.prog 22 #[.pointer (some ⟨g, 0, none⟩), .int .i64 bits] w (UQ4 .u64 g w (0, [], e)) := by
  have HH := Lib.hid H
  have HY := Lib.hid hy
  have HG := Lib.hid hg
  have heb : (e == 0) = false := by simpa using he
  clear H hy hg he
  go_enter Try.func22, Try.ntmps22
  go_wp2_with (go_at_call 35; refine (group_c g bits l y _ HH.out HY.out).mono ?_; intro e1 w1 hq; rw [HG.out] at hq; obtain ⟨v, rfl, hown, hq, ht⟩ := hq.out; have hc1 := cells44 hq; have HQ := Lib.hid hq; have HT := Lib.hid ht; clear hq ht hown)
  go_ret
  exact ⟨rfl, HQ.out, HT.out⟩

structure GrpR (g : Nat) (w : World) (q t : List Int) (y : Int) (e : Ending) (w' : World) : Prop where mk ::
  (out : ∃ A c, e = .returned (.slice A q.length c) ∧ w'.ownsRow w.heap.size 3 1 (.slice A q.length c) q.length (nums .i64 q) ∧ Rdr 44 w' g t y ∧ Turn w w' g)
theorem group_q (g : Nat) (bits : Int) (l : List Int) (y : Int) (w : World) (H : Rdr 44 w g l y) (hy : y = 0 ∨ l = []) (q t : List Int) (e : Int) (hg : grpF bits l y = (q, t, e)) :
    Calls Try.prog 35 #[.pointer (some ⟨g, 0, none⟩), .int .i64 bits] w (GrpR g w q t e) := by
  refine (group_c g bits l y w H hy).mono ?_
  intro en w' h
  rw [hg] at h
  obtain ⟨v, h1, h2, h3, h4⟩ := h.out
  obtain ⟨A, c, rfl⟩ := own_slice h2
  exact ⟨A, c, h1, h2, h3, h4⟩
def URel (w1 : World) (V : Nat) (b : Nat) (n k : Value) (wr : World) : Prop :=
  ∃ (K : Nat) (z : Int), k = .int .i64 ((K : Int) - 1) ∧ K ≤ 70 ∧ n = .int .u64 z ∧ z = (V : Int) / ((2 ^ K : Nat) : Int) % ((2 ^ (64 - K) : Nat) : Int) ∧ V < 2 ^ max K b ∧ Below w1.heap.size w1 wr
theorem z_bound {X z : Int} {K : Nat} (h : z = X / ((2 ^ K : Nat) : Int) % ((2 ^ (64 - K) : Nat) : Int)) : 0 ≤ z ∧ z < 18446744073709551616 ∧ (1 ≤ K → z < 9223372036854775808) := by
  have h1 : 2 ^ (64 - K) ≤ 2 ^ 64 := pw_le (by omega)
  have h2 : 1 ≤ K → 2 ^ (64 - K) ≤ 2 ^ 63 := fun h => pw_le (by omega)
  have hp := pos_pw (64 - K)
  generalize 2 ^ (64 - K) = M at *
  have h3 := Int.emod_lt_of_pos (X / ((2 ^ K : Nat) : Int)) (show (0 : Int) < M by omega)
  have h4 := Int.emod_nonneg (X / ((2 ^ K : Nat) : Int)) (show (M : Int) ≠ 0 by omega)
  refine ⟨by omega, by omega, fun h => ?_⟩
  have := h2 h
  omega
theorem z_next {X z : Int} {K : Nat} {β : Int} (hK : K < 64) (h : z = X / ((2 ^ (K + 1) : Nat) : Int) % ((2 ^ (64 - (K + 1)) : Nat) : Int)) (hβ : X / ((2 ^ K : Nat) : Int) % 2 = β) :
    IntKind.u64.wrap (IntKind.u64.wrap (z * 2) + β) = X / ((2 ^ K : Nat) : Int) % ((2 ^ (64 - K) : Nat) : Int) := by
  have h1 := acc X K hK
  obtain ⟨b0, b1, b2⟩ := z_bound h
  obtain ⟨c0, c1, c2⟩ := z_bound (X := X) (K := K) rfl
  have b2 := b2 (by omega)
  rw [← h, hβ] at h1
  rw [← h1] at c0 c1 ⊢
  rw [IntKind.wrap_u64, IntKind.wrap_u64]
  omega
theorem z_high {X z : Int} {K : Nat} (hK : 64 ≤ K) (h : z = X / ((2 ^ (K + 1) : Nat) : Int) % ((2 ^ (64 - (K + 1)) : Nat) : Int)) : z = X / ((2 ^ K : Nat) : Int) % ((2 ^ (64 - K) : Nat) : Int) := by
  rw [show 64 - (K + 1) = 0 by omega] at h
  rw [show 64 - K = 0 by omega]
  simp at h ⊢
  exact h
theorem v_next {V K b : Nat} (h : V < 2 ^ max (K + 1) b) (hn : b ≤ K → V / 2 ^ K % 2 = 0) : V < 2 ^ max K b := by
  by_cases hb : b ≤ K
  · have h0 := hn hb
    rw [show max (K + 1) b = K + 1 by omega, Nat.pow_succ] at h
    rw [show max K b = K by omega]
    have hp := pos_pw K
    generalize 2 ^ K = P at *
    have : V / P < 2 := (Nat.div_lt_iff_lt_mul hp).2 (by omega)
    have h2 : V / P = 0 := by rw [← h0, Nat.mod_eq_of_lt this]
    rcases Nat.lt_or_ge V P with q | q
    · exact q
    · have := (Nat.le_div_iff_mul_le hp).2 (show 1 * P ≤ V by omega); omega
  · rw [show max K b = max (K + 1) b by omega]; exact h
theorem v_over {V K b : Nat} (hb : b ≤ K) (h : V / 2 ^ K % 2 = 1) : ¬ V < 2 ^ b := by
  intro hv
  have := pw_le hb
  rw [Nat.div_eq_of_lt (by omega)] at h
  simp at h
theorem v_out {V b : Nat} (hb : b ≤ 64) {z : Int} (h : z = (V : Int) / ((2 ^ 0 : Nat) : Int) % ((2 ^ (64 - 0) : Nat) : Int)) (hv : V < 2 ^ max 0 b) : V < 2 ^ b ∧ z = V := by
  have e : max 0 b = b := by omega
  rw [e] at hv
  have := pw_le hb
  refine ⟨hv, ?_⟩
  rw [h]
  simp only [Nat.pow_zero, Nat.sub_zero]
  have h64 : (2 : Nat) ^ 64 = 18446744073709551616 := by decide
  rw [h64] at this ⊢
  generalize 2 ^ b = B at *
  omega

set_option maxRecDepth 100000 in
theorem u_some (g : Nat) (b : Nat) (l : List Int) (w : World) (H : Rdr 44 w g l 0) (h1 : 1 ≤ b) (h2 : b ≤ 64) (q t : List Int) (hq : ∀ x ∈ q, 0 ≤ x ∧ x < 128) (hlen : q.length ≤ 10) (hg : grpF b l 0 = (q, t, 0)) :
    Calls Try.prog 22 #[.pointer (some ⟨g, 0, none⟩), .int .i64 (b : Int)] w (UQ4 .u64 g w (if pv q < 2 ^ b then ((pv q : Int), t, 0) else (0, [], 11))) := by
  obtain ⟨V, hV⟩ : ∃ V, V = pv q := ⟨_, rfl⟩
  rw [← hV]
  have HH := Lib.hid H
  have HG := Lib.hid hg
  have HB := Lib.hid (fun k => bit_u q k hq hlen)
  have HV : Hid (V < 2 ^ 70) := Lib.hid (by rw [hV]; exact Nat.lt_of_lt_of_le (pv_lt q) (pw_le (by omega)))
  have HVV := Lib.hid hV
  obtain ⟨R, hR⟩ : ∃ R, R = (if V < 2 ^ b then ((V : Int), t, (0 : Int)) else (0, [], 11)) := ⟨_, rfl⟩
  rw [← hR]
  have HRR := Lib.hid hR
  clear hR
  clear H hg hq hlen hV
  go_enter Try.func22, Try.ntmps22
  go_wp2_with (go_at_call 35; refine (group_q g (b : Int) l 0 _ HH.out (.inl rfl) q t 0 HG.out).mono ?_; intro e1 w1 hgr; obtain ⟨A1, c1, rfl, hown, hrd, ht⟩ := hgr.out; clear hgr; have hc1 := cells44 hrd; have HQ := Lib.hid hrd; have HT := Lib.hid ht; have HO := Lib.hid hown; clear hrd ht hown)
  go_loopw [6, 7] (URel w1 V b) (fun n k _ => (intOf k + 1).toNat)
  case atStart => exact ⟨70, 0, rfl, by omega, rfl, by simp, by rw [show max 70 b = 70 by omega]; exact HV.out, Below.refl _ _⟩
  case round =>
    obtain ⟨K, z, rfl, hK, rfl, hz, hv, hbl⟩ := hrel
    have HZ := Lib.hid hz
    have HW := Lib.hid hv
    have HBL := Lib.hid hbl
    have HQR := Lib.hid (rdr_below HQ.out hbl)
    have HRD := Lib.hid ((own_reads' HO.out).below hbl)
    clear hz hv hbl
    cases K with
    | zero =>
      go_wp2
      go_ret
      obtain ⟨q1, q2⟩ := v_out h2 HZ.out HW.out
      have hR := HRR.out
      rw [if_pos q1, ← q2] at hR
      rw [hR]
      exact ⟨rfl, HQR.out, HT.out.trans (Turn.of_below HBL.out g)⟩
    | succ K =>
      have eK : ((K + 1 : Nat) : Int) - 1 = (K : Int) := by omega
      rw [eK]
      have hbit := HB.out K
      rw [← HVV.out] at hbit
      rcases Nat.mod_two_eq_zero_or_one (V / 2 ^ K) with h0 | h0
      · rw [h0] at hbit
        have HBIT := Lib.hid hbit
        have HN0 := Lib.hid h0
        clear hbit h0
        go_wp2_with (go_at_call 36; refine (bit_c A1 c1 q (K : Int) false _ _ HRD.out (own_cap HO.out) HBIT.out).mono ?_; rintro e w2 ⟨rfl, hb⟩; have HBL2 := Lib.hid (HBL.out.trans (hb.mono HBL.out.size)); clear hb)
        all_goals
          refine ⟨⟨K, _, rfl, by omega, rfl, ?_, v_next HW.out (fun _ => HN0.out), HBL2.out⟩, by simp [intOf] <;> omega⟩
          first
            | exact z_high (by omega) HZ.out
            | (have := z_next (β := 0) (by omega) HZ.out (by show ((V / 2 ^ K % 2 : Nat) : Int) = 0; rw [HN0.out]; rfl); rw [Int.add_zero] at this; exact this)
      · rw [h0] at hbit
        have HBIT := Lib.hid hbit
        have HN0 := Lib.hid h0
        clear hbit h0
        go_wp2_with (first | (go_at_call 36; refine (bit_c A1 c1 q (K : Int) false _ _ HRD.out (own_cap HO.out) HBIT.out).mono ?_; rintro e w2 ⟨rfl, hb⟩; have HBL2 := Lib.hid (HBL.out.trans (hb.mono HBL.out.size)); have HQ2 := Lib.hid (rdr_below HQR.out hb); clear hb) | (go_at_call 32; refine (fail_11 g _ _ HQ2.out).mono ?_; rintro e w3 ⟨rfl, hrd, ht⟩; have HQ3 := Lib.hid hrd; have HT3 := Lib.hid ht; clear hrd ht))
        all_goals first
          | (refine ⟨⟨K, _, rfl, by omega, rfl, ?_, v_next HW.out (fun q => absurd q (by omega)), HBL2.out⟩, by simp [intOf] <;> omega⟩
             exact z_next (β := 1) (by omega) HZ.out (by show ((V / 2 ^ K % 2 : Nat) : Int) = 1; rw [HN0.out]; rfl))
          | (go_ret
             have hR := HRR.out
             rw [if_neg (v_over (by omega) HN0.out)] at hR
             rw [hR]
             exact ⟨rfl, HQ3.out, (HT.out.trans (Turn.of_below HBL2.out g)).trans HT3.out⟩)

theorem parts_in {p : List Int} {c : Int} (hp : ∀ x ∈ p, 128 ≤ x ∧ x < 256) (hc0 : 0 ≤ c) (hc1 : c < 128) : ∀ x ∈ p.map (· - 128) ++ [c], 0 ≤ x ∧ x < 128 := by
  intro x hx
  rcases List.mem_append.1 hx with h | h
  · obtain ⟨z, hz, rfl⟩ := List.mem_map.1 h
    have := hp z hz
    omega
  · simp at h; omega
theorem U_r (g : Nat) (bits : Int) (l : List Int) (y : Int) (w : World) (H : Rdr 44 w g l y) (hy : y = 0 ∨ l = []) :
    Calls Try.prog 22 #[.pointer (some ⟨g, 0, none⟩), .int .i64 bits] w (UQ4 .u64 g w (uF bits l y)) := by
  have hx : ∀ x ∈ l, 0 ≤ x ∧ x < 256 := by obtain ⟨A, c, hb, hc, hr, hx, hl⟩ := H.out; exact hx
  rcases grp_cases bits l y hx with ⟨e, he, hg, hu, hs⟩ | ⟨rfl, h1, h2, p, c, t, rfl, p1, p2, p3, hl, hg⟩
  · rw [hu]; exact u_none g bits l y e w H hy he hg
  · obtain ⟨b, rfl⟩ := Int.eq_ofNat_of_zero_le (show 0 ≤ bits by omega)
    have hm : mostP (b : Int) ≤ 10 := by unfold mostP; omega
    have := u_some g b _ w H (by omega) (by omega) _ t (parts_in p1 p2 p3) (by simp; omega) hg
    rw [pv_parts] at this
    rw [uF_whole h1 h2 p1 p2 p3 hl]
    exact this
end Go.Proofs.Ytnpiicnhdpldaaa.Rf
