/-
  Plain arithmetic of the reference's reader (chapter 1): the parts, their bits. No condition beyond those that the lemmas state.
-/
import Derived.Test.YtnpiicnhdpldaaaRfB
namespace Go.Proofs.Ytnpiicnhdpldaaa.Rf
set_option linter.unusedVariables false
set_option linter.unusedSimpArgs false
open Go.RowKit Go.Proofs.YtnpiicnhdpldaaaW.PrintWords Go.Proofs.Ytnpiicnhdpldaaa.PLeb Go.Proofs.Ytnpiicnhdpldaaa.Lb Go.Proofs.Ytnpiicnhdpldaaa.Pure

theorem span : ∀ l : List Int, (∀ x ∈ l, 0 ≤ x ∧ x < 256) → (∃ p c t, l = p ++ c :: t ∧ (∀ x ∈ p, 128 ≤ x ∧ x < 256) ∧ 0 ≤ c ∧ c < 128) ∨ (∀ x ∈ l, 128 ≤ x)
  | [], _ => .inr (by simp)
  | c :: t, h => by
    by_cases hc : c < 128
    · exact .inl ⟨[], c, t, rfl, by simp, (h c (by simp)).1, hc⟩
    · rcases span t (fun x hx => h x (List.mem_cons_of_mem _ hx)) with ⟨p, d, t', rfl, h1, h2, h3⟩ | h1
      · refine .inl ⟨c :: p, d, t', rfl, fun x hx => ?_, h2, h3⟩
        rcases List.mem_cons.1 hx with rfl | hx
        · exact ⟨by omega, (h x (by simp)).2⟩
        · exact h1 x hx
      · refine .inr fun x hx => ?_
        rcases List.mem_cons.1 hx with rfl | hx
        · omega
        · exact h1 x hx
theorem grpG_whole (c : Int) (t : List Int) (m : Nat) (hc : c < 128) : ∀ (p out : List Int), (∀ x ∈ p, 128 ≤ x) → out.length + p.length < m → grpG m out (p ++ c :: t) = (out ++ (p.map (· - 128) ++ [c]), t, 0)
  | [], out, _, _ => by simp [grpG, hc]
  | x :: p, out, h, hl => by
    have hx := h x (by simp)
    simp only [List.length_cons] at hl
    show (if x < 128 then _ else if out.length + 1 = m then _ else grpG m (out ++ [x - 128]) (p ++ c :: t)) = _
    rw [if_neg (by omega), if_neg (by omega), grpG_whole c t m hc p _ (fun z hz => h z (List.mem_cons_of_mem _ hz)) (by simp; omega)]
    simp
theorem grpG_over (m : Nat) (t : List Int) : ∀ (p out : List Int), (∀ x ∈ p, 128 ≤ x) → out.length < m → m ≤ out.length + p.length → grpG m out (p ++ t) = ([], [], 11)
  | [], out, _, h1, h2 => by simp at h2; omega
  | x :: p, out, h, h1, h2 => by
    have hx := h x (by simp)
    simp only [List.length_cons] at h2
    show (if x < 128 then _ else if out.length + 1 = m then _ else grpG m (out ++ [x - 128]) (p ++ t)) = _
    rw [if_neg (by omega)]
    by_cases e : out.length + 1 = m
    · rw [if_pos e]
    · rw [if_neg e, grpG_over m t p _ (fun z hz => h z (List.mem_cons_of_mem _ hz)) (by simp; omega) (by simp; omega)]
theorem grpG_short (m : Nat) : ∀ (p out : List Int), (∀ x ∈ p, 128 ≤ x) → out.length + p.length < m → grpG m out p = ([], [], 10)
  | [], out, _, _ => rfl
  | x :: p, out, h, hl => by
    have hx := h x (by simp)
    simp only [List.length_cons] at hl
    show (if x < 128 then _ else if out.length + 1 = m then _ else grpG m (out ++ [x - 128]) p) = _
    rw [if_neg (by omega), if_neg (by omega), grpG_short m p _ (fun z hz => h z (List.mem_cons_of_mem _ hz)) (by simp; omega)]

theorem grp_cases (bits : Int) (l : List Int) (y : Int) (hx : ∀ x ∈ l, 0 ≤ x ∧ x < 256) :
    (∃ e, e ≠ 0 ∧ grpF bits l y = ([], [], e) ∧ uF bits l y = (0, [], e) ∧ sF bits l y = (0, [], e)) ∨
    (y = 0 ∧ 1 ≤ bits ∧ bits ≤ 64 ∧ ∃ p c t, l = p ++ c :: t ∧ (∀ x ∈ p, 128 ≤ x ∧ x < 256) ∧ 0 ≤ c ∧ c < 128 ∧ p.length < mostP bits ∧ grpF bits l y = (p.map (· - 128) ++ [c], t, 0)) := by
  by_cases hb : bits < 1 ∨ 64 < bits
  · refine .inl ⟨argE y, by unfold argE; split <;> omega, by unfold grpF; rw [if_pos hb], ?_, ?_⟩
    · unfold uF numF; rw [if_pos hb]; rfl
    · unfold sF numF; rw [if_pos hb]; rfl
  · by_cases hy : y = 0
    · subst hy
      have h1 : 1 ≤ bits := by omega
      have h2 : bits ≤ 64 := by omega
      have hm : 0 < mostP bits := by unfold mostP; omega
      have eg : grpF bits l 0 = grpG (mostP bits) [] l := by unfold grpF mostP; rw [if_neg hb, if_pos rfl]
      rcases span l hx with ⟨p, c, t, rfl, p1, p2, p3⟩ | h
      · by_cases hl : p.length < mostP bits
        · refine .inr ⟨rfl, h1, h2, p, c, t, rfl, p1, p2, p3, hl, ?_⟩
          rw [eg, grpG_whole c t _ p3 p [] (fun x hx => (p1 x hx).1) (by simpa using hl)]; simp
        · refine .inl ⟨11, by decide, ?_, uF_over h1 h2 (fun x hx => (p1 x hx).1) (by omega), sF_over h1 h2 (fun x hx => (p1 x hx).1) (by omega)⟩
          rw [eg, grpG_over _ _ p [] (fun x hx => (p1 x hx).1) (by simpa using hm) (by simp; omega)]
      · by_cases hl : l.length < mostP bits
        · refine .inl ⟨10, by decide, ?_, uF_short h1 h2 h hl, sF_short h1 h2 h hl⟩
          rw [eg, grpG_short _ l [] h (by simpa using hl)]
        · have e := List.append_nil l
          refine .inl ⟨11, by decide, ?_, ?_, ?_⟩
          · rw [eg, ← e, grpG_over _ [] l [] h (by simpa using hm) (by simp; omega)]
          · rw [← e]; exact uF_over h1 h2 h (by omega)
          · rw [← e]; exact sF_over h1 h2 h (by omega)
    · refine .inl ⟨y, hy, by unfold grpF; rw [if_neg hb, if_neg hy], ?_, ?_⟩
      · unfold uF numF; rw [if_neg hb, if_neg hy]; rfl
      · unfold sF numF; rw [if_neg hb, if_neg hy]; rfl

theorem pv_parts : ∀ p q : List Int, pv (p.map (· - 128) ++ q) = pv (p ++ q)
  | [], q => rfl
  | x :: p, q => by
    simp only [List.map_cons, List.cons_append, pv, pv_parts p q]
    rw [show (x - 128) % 128 = x % 128 by omega]

theorem div_add (a k z : Nat) (h : k < 7) : (a + 128 * z) / 2 ^ k % 2 = a / 2 ^ k % 2 := by
  have : 128 = 2 ^ k * 2 ^ (7 - k) := by rw [← Nat.pow_add, show k + (7 - k) = 7 by omega]
  have e2 : 2 ^ (7 - k) = 2 * 2 ^ (6 - k) := by rw [show 7 - k = 1 + (6 - k) by omega, Nat.pow_add]
  rw [this, Nat.mul_assoc, Nat.add_mul_div_left _ _ (pos_pw k), e2, Nat.mul_assoc, Nat.add_mul_mod_self_left]
theorem pv_bit : ∀ (q : List Int) (k : Nat), (∀ x ∈ q, 0 ≤ x ∧ x < 128) → k < 7 * q.length → (q.getD (k / 7) 0).toNat / 2 ^ (k % 7) % 2 = pv q / 2 ^ k % 2
  | [], k, _, h => by simp at h
  | x :: q, k, hx, h => by
    have h0 := hx x (by simp)
    by_cases hk : k < 7
    · rw [show k / 7 = 0 by omega, show k % 7 = k by omega]
      simp only [List.getD_cons_zero, pv]
      rw [div_add _ _ _ hk, show x % 128 = x by omega]
    · have := pv_bit q (k - 7) (fun z hz => hx z (List.mem_cons_of_mem _ hz)) (by simp at h; omega)
      rw [show k / 7 = (k - 7) / 7 + 1 by omega, show k % 7 = (k - 7) % 7 by omega, List.getD_cons_succ, this]
      have e : 2 ^ k = 128 * 2 ^ (k - 7) := by rw [show k = 7 + (k - 7) by omega, Nat.pow_add]; simp
      simp only [pv]
      rw [e, ← Nat.div_div_eq_div_mul, show ((x % 128).toNat + 128 * pv q) / 128 = pv q by omega]

theorem bit_l0 (x1 : Nat) : ∀ (d i k x7 : Nat), i + d = x1 % 7 → d < k → x7 < 4611686018427387904 → bodkinref01_bit.l0 k (x1 : Int) (x7 : Int) (i : Int) = some ((x7 / 2 ^ d % 2 : Nat) : Int)
  | d, i, 0, x7, _, h, _ => by omega
  | 0, i, k + 1, x7, hi, _, hx => by
    simp only [bodkinref01_bit.l0]
    have e : Int.tmod (x1 : Int) 7 = ((x1 % 7 : Nat) : Int) := rfl
    have e2 : Int.tmod (x7 : Int) 2 = ((x7 % 2 : Nat) : Int) := rfl
    rw [e, e2, if_neg (by omega)]; simp
  | d + 1, i, k + 1, x7, hi, hk, hx => by
    simp only [bodkinref01_bit.l0]
    have e : Int.tmod (x1 : Int) 7 = ((x1 % 7 : Nat) : Int) := rfl
    have e2 : wrap64 (Int.tdiv (x7 : Int) 2) = ((x7 / 2 : Nat) : Int) := by
      rw [show Int.tdiv (x7 : Int) 2 = ((x7 / 2 : Nat) : Int) from rfl]; unfold wrap64; omega
    have e3 : wrap64 ((i : Int) + 1) = ((i + 1 : Nat) : Int) := by unfold wrap64; omega
    rw [e, e2, e3, if_pos (by omega), bit_l0 x1 d (i + 1) k (x7 / 2) (by omega) (by omega) (by omega)]
    rw [Nat.div_div_eq_div_mul, Nat.pow_succ, Nat.mul_comm 2]
theorem bit_j0 (q : List Int) (k : Nat) (hx : ∀ x ∈ q, 0 ≤ x ∧ x < 128) (h : k < 7 * q.length) (hl : q.length ≤ 10) : bodkinref01_bit.j0 9 q (k : Int) = some ((pv q / 2 ^ k % 2 : Nat) : Int) := by
  simp only [bodkinref01_bit.j0]
  have e : wrap64 (Int.tdiv (k : Int) 7) = ((k / 7 : Nat) : Int) := by
    rw [show Int.tdiv (k : Int) 7 = ((k / 7 : Nat) : Int) from rfl]; unfold wrap64; omega
  have hlt : k / 7 < q.length := by omega
  have hm : q.getD (k / 7) 0 ∈ q := by rw [List.getD_eq_getElem?_getD, List.getElem?_eq_getElem hlt]; exact List.getElem_mem hlt
  have h0 := hx _ hm
  rw [e, if_pos (by omega), if_pos (by omega)]
  have e2 : rd q ((k / 7 : Nat) : Int) = (((q.getD (k / 7) 0).toNat : Nat) : Int) := by
    have : rd q ((k / 7 : Nat) : Int) = q.getD (k / 7) 0 := rfl
    rw [this]; omega
  have := bit_l0 k (k % 7) 0 8 (q.getD (k / 7) 0).toNat (by omega) (by omega) (by omega)
  rw [e2]
  rw [pv_bit q k hx h] at this
  exact this
theorem bit_u (q : List Int) (k : Nat) (hx : ∀ x ∈ q, 0 ≤ x ∧ x < 128) (hl : q.length ≤ 10) : bodkinref01_bit.f 9 q (k : Int) false = some ((pv q / 2 ^ k % 2 : Nat) : Int) := by
  unfold bodkinref01_bit.f
  have e : wrap64 (7 * (q.length : Int)) = ((7 * q.length : Nat) : Int) := by unfold wrap64; omega
  rw [e]
  by_cases h : k < 7 * q.length
  · rw [if_neg (by omega), bit_j0 q k hx h hl]
  · rw [if_pos (by omega), if_neg (by decide)]
    have h1 := pv_lt q
    have h2 : 2 ^ (7 * q.length) ≤ 2 ^ k := pw_le (by omega)
    rw [Nat.div_eq_of_lt (by omega)]
    rfl

theorem sv_sign (p : List Int) (c : Int) (hc0 : 0 ≤ c) (hc1 : c < 128) : pv (p ++ [c]) / 2 ^ (7 * (p.length + 1) - 1) % 2 = (if 64 ≤ c then 1 else 0) ∧
    (64 ≤ c → -((2 ^ (7 * p.length + 6) : Nat) : Int) ≤ sv p c ∧ sv p c < 0) ∧ (c < 64 → 0 ≤ sv p c ∧ sv p c < ((2 ^ (7 * p.length + 6) : Nat) : Int)) := by
  have hvv : pv (p ++ [c]) = pv p + 2 ^ (7 * p.length) * c.toNat := by
    rw [pv_append]
    simp only [pv]
    rw [show (c % 128).toNat = c.toNat by omega]
    simp
  have hpl := pv_lt p
  have e6 : 2 ^ (7 * p.length + 6) = 64 * 2 ^ (7 * p.length) := by rw [Nat.pow_add]; omega
  have e7 : 2 ^ (7 * (p.length + 1)) = 128 * 2 ^ (7 * p.length) := by rw [show 7 * (p.length + 1) = 7 + 7 * p.length by omega, Nat.pow_add]
  unfold sv
  rw [hvv, e6, e7, show 7 * (p.length + 1) - 1 = 7 * p.length + 6 by omega, e6]
  have hP := pos_pw (7 * p.length)
  generalize 2 ^ (7 * p.length) = P at *
  obtain ⟨d, rfl⟩ : ∃ d : Nat, c = d := ⟨c.toNat, by omega⟩
  rw [Int.toNat_natCast]
  have hd : (pv p + P * d) / (64 * P) = d / 64 := by
    rw [Nat.mul_comm 64 P, ← Nat.div_div_eq_div_mul, Nat.add_mul_div_left _ _ hP, Nat.div_eq_of_lt hpl, Nat.zero_add]
  refine ⟨?_, fun h => ?_, fun h => ?_⟩
  · rw [hd]; split <;> omega
  · have a1 : P * 64 ≤ P * d := Nat.mul_le_mul_left _ (by omega)
    have a2 : P * d ≤ P * 127 := Nat.mul_le_mul_left _ (by omega)
    generalize P * d = Q at *
    rw [if_pos h]
    omega
  · have a2 : P * d ≤ P * 63 := Nat.mul_le_mul_left _ (by omega)
    generalize P * d = Q at *
    rw [if_neg (by omega)]
    omega
theorem zdiv_add (V k m : Nat) (h : k < m) : ((V : Int) - ((2 ^ m : Nat) : Int)) / ((2 ^ k : Nat) : Int) % 2 = ((V / 2 ^ k % 2 : Nat) : Int) := by
  have e : 2 ^ m = 2 ^ k * (2 * 2 ^ (m - k - 1)) := by rw [show (2 : Nat) * 2 ^ (m - k - 1) = 2 ^ (1 + (m - k - 1)) by rw [Nat.pow_add], ← Nat.pow_add]; congr 1; omega
  have hp := pos_pw k
  rw [e]
  generalize 2 ^ (m - k - 1) = Z
  generalize 2 ^ k = P at *
  have : (V : Int) - ((P * (2 * Z) : Nat) : Int) = (V : Int) + (P : Int) * (-(2 * (Z : Int))) := by push_cast; rw [Int.mul_neg]; omega
  rw [this, Int.add_mul_ediv_left _ _ (show (P : Int) ≠ 0 by omega)]
  have : (V : Int) / (P : Int) = ((V / P : Nat) : Int) := rfl
  rw [this]
  omega
theorem bit_s (p : List Int) (c : Int) (k : Nat) (hp : ∀ x ∈ p, 128 ≤ x ∧ x < 256) (hc0 : 0 ≤ c) (hc1 : c < 128) (hl : p.length < 10) : bodkinref01_bit.f 9 (p.map (· - 128) ++ [c]) (k : Int) true = some (sv p c / ((2 ^ k : Nat) : Int) % 2) := by
  have hx : ∀ x ∈ p.map (· - 128) ++ [c], 0 ≤ x ∧ x < 128 := by
    intro x hx
    rcases List.mem_append.1 hx with h | h
    · obtain ⟨z, hz, rfl⟩ := List.mem_map.1 h
      have := hp z hz
      omega
    · simp at h; omega
  have hlen : (p.map (· - 128) ++ [c]).length = p.length + 1 := by simp
  have hv := pv_parts p [c]
  obtain ⟨s1, s2, s3⟩ := sv_sign p c hc0 hc1
  unfold bodkinref01_bit.f
  have e : wrap64 (7 * ((p.map (· - 128) ++ [c]).length : Int)) = ((7 * (p.length + 1) : Nat) : Int) := by rw [hlen]; unfold wrap64; omega
  rw [e]
  by_cases h : k < 7 * (p.length + 1)
  · rw [if_neg (by omega), bit_j0 _ k hx (by rw [hlen]; exact h) (by rw [hlen]; omega), hv]
    congr 1
    unfold sv
    split
    · exact (zdiv_add _ _ _ h).symm
    · rw [Int.sub_zero]; rfl
  · rw [if_pos (by omega), if_pos rfl, show wrap64 (((7 * (p.length + 1) : Nat) : Int) - 1) = ((7 * (p.length + 1) - 1 : Nat) : Int) by unfold wrap64; omega, bit_j0 _ _ hx (by rw [hlen]; omega) (by rw [hlen]; omega), hv, s1]
    congr 1
    have hle : 2 ^ (7 * p.length + 6) ≤ 2 ^ k := pw_le (by omega)
    generalize 2 ^ (7 * p.length + 6) = A at *
    generalize 2 ^ k = B at *
    by_cases h64 : 64 ≤ c
    · obtain ⟨q1, q2⟩ := s2 h64
      rw [if_pos h64, show sv p c / (B : Int) = -1 from Int.le_antisymm (by have : sv p c / (B : Int) < 0 := Int.ediv_neg_of_neg_of_pos q2 (by omega); omega) ((Int.le_ediv_iff_mul_le (by omega)).2 (by omega))]
      decide
    · obtain ⟨q1, q2⟩ := s3 (by omega)
      rw [if_neg h64, Int.ediv_eq_zero_of_lt q1 (by omega)]
      decide
theorem acc (X : Int) (K : Nat) (h : K < 64) : (X / ((2 ^ (K + 1) : Nat) : Int) % ((2 ^ (64 - (K + 1)) : Nat) : Int)) * 2 + X / ((2 ^ K : Nat) : Int) % 2 = X / ((2 ^ K : Nat) : Int) % ((2 ^ (64 - K) : Nat) : Int) := by
  have e1 : X / ((2 ^ (K + 1) : Nat) : Int) = X / ((2 ^ K : Nat) : Int) / 2 := by
    rw [Int.ediv_ediv_of_nonneg (Int.natCast_nonneg _), Nat.pow_succ]; rfl
  have e2 : 2 ^ (64 - K) = 2 * 2 ^ (64 - (K + 1)) := by rw [show 64 - K = 1 + (64 - (K + 1)) by omega, Nat.pow_add]
  rw [e1, e2]
  have hp := pos_pw (64 - (K + 1))
  generalize X / ((2 ^ K : Nat) : Int) = Y
  generalize 2 ^ (64 - (K + 1)) = M at *
  have h1 := Int.mul_ediv_add_emod (Y / 2) (M : Int)
  have h2 := Int.emod_lt_of_pos (Y / 2) (show (0 : Int) < M by omega)
  have h3 := Int.emod_nonneg (Y / 2) (show (M : Int) ≠ 0 by omega)
  have e3 : Y = (Y / 2 % (M : Int) * 2 + Y % 2) + ((2 * M : Nat) : Int) * (Y / 2 / (M : Int)) := by
    push_cast
    rw [Int.mul_assoc]
    generalize (M : Int) * (Y / 2 / (M : Int)) = Z at *
    omega
  have e4 : Y % ((2 * M : Nat) : Int) = (Y / 2 % (M : Int) * 2 + Y % 2 + ((2 * M : Nat) : Int) * (Y / 2 / (M : Int))) % ((2 * M : Nat) : Int) := congrArg (· % ((2 * M : Nat) : Int)) e3
  rw [e4, Int.add_mul_emod_self_left, Int.emod_eq_of_lt (a := Y / 2 % (M : Int) * 2 + Y % 2) (by omega) (by omega)]
end Go.Proofs.Ytnpiicnhdpldaaa.Rf
