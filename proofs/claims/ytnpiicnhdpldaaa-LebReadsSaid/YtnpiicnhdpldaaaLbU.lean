/-
  Plain arithmetic of reading numbers (chapter 1): what the reader's U and S come to, told of the number in parts. No condition beyond those that the lemmas state.
-/
import Derived.Test.YtnpiicnhdpldaaaLbQ
namespace Go.Proofs.Ytnpiicnhdpldaaa.Pure
set_option linter.unusedVariables false
set_option linter.unusedSimpArgs false
open Go.RowKit Go.Proofs.YtnpiicnhdpldaaaW.PrintWords Go.Proofs.Ytnpiicnhdpldaaa.PLeb Go.Proofs.Ytnpiicnhdpldaaa.Lb

/-- How many parts a number of so many bits may have. -/
def mostP (bits : Int) : Nat := ((bits + 6) / 7).toNat
theorem numF_in {bits : Int} {l : List Int} (h1 : 1 ≤ bits) (h2 : bits ≤ 64) : numF bits l 0 = numG (mostP bits) ((0 : Nat) : Int) 0 l := by
  unfold numF mostP; rw [if_neg (by omega), if_pos rfl]; rfl
theorem numF_whole {bits : Int} {p : List Int} {c : Int} {t : List Int} (h1 : 1 ≤ bits) (h2 : bits ≤ 64) (hp : ∀ x ∈ p, 128 ≤ x ∧ x < 256) (hc0 : 0 ≤ c) (hc1 : c < 128) (hl : p.length < mostP bits) :
    numF bits (p ++ c :: t) 0 = (((pv (p ++ [c]) % 18446744073709551616 : Nat) : Int), p.length + 1, decide (64 ≤ c), true, t, 0) := by
  have hg := numG_whole p c t (mostP bits) 0 0 hp hc0 hc1 hl (by unfold mostP; omega) (by simp)
  rw [numF_in h1 h2, hg]
  simp
theorem numF_over {bits : Int} {p t : List Int} (h1 : 1 ≤ bits) (h2 : bits ≤ 64) (hp : ∀ x ∈ p, 128 ≤ x) (hl : mostP bits ≤ p.length) : ∃ n' k', numF bits (p ++ t) 0 = (n', k', false, false, [], 11) := by
  have e : p ++ t = p.take (mostP bits) ++ (p.drop (mostP bits) ++ t) := by rw [← List.append_assoc, List.take_append_drop]
  have hlen : (p.take (mostP bits)).length = mostP bits := by rw [List.length_take]; omega
  obtain ⟨n', hg⟩ := numG_over (p.take (mostP bits)) ((0 : Nat) : Int) (p.drop (mostP bits) ++ t) 0 (fun x hx => hp x (List.mem_of_mem_take hx))
  rw [hlen, ← e] at hg
  exact ⟨n', _, by rw [numF_in h1 h2, hg]⟩
theorem numF_short {bits : Int} {p : List Int} (h1 : 1 ≤ bits) (h2 : bits ≤ 64) (hp : ∀ x ∈ p, 128 ≤ x) (hl : p.length < mostP bits) : ∃ n' k', numF bits p 0 = (n', k', false, false, [], 10) := by
  obtain ⟨n', hg⟩ := numG_short p ((0 : Nat) : Int) (mostP bits) 0 hp hl
  exact ⟨n', _, by rw [numF_in h1 h2, hg]⟩

theorem pw_split {a b : Nat} (h : a ≤ b) : 2 ^ b = 2 ^ a * 2 ^ (b - a) := by rw [← Nat.pow_add, show a + (b - a) = b by omega]
theorem pw_le {a b : Nat} (h : a ≤ b) : 2 ^ a ≤ 2 ^ b := Nat.pow_le_pow_right (by decide) h
theorem pos_pw (a : Nat) : 0 < 2 ^ a := Nat.pow_pos (by decide)
theorem div_ne (V b : Nat) : (((V : Int) / 2 ^ b != 0) = true) ↔ 2 ^ b ≤ V := by
  have e : (2 : Int) ^ b = ((2 ^ b : Nat) : Int) := by simp
  rw [e]
  have h := pos_pw b
  generalize 2 ^ b = P at *
  simp only [bne_iff_ne, ne_eq]
  constructor
  · intro hn
    rcases Nat.lt_or_ge V P with q | q
    · exact absurd (Int.ediv_eq_zero_of_lt (by omega) (by omega)) hn
    · exact q
  · intro hle he
    have := Int.mul_ediv_add_emod (V : Int) (P : Int)
    have h2 := Int.emod_lt_of_pos (V : Int) (show (0 : Int) < P by omega)
    rw [he] at this
    omega

/-- What U reads of a number in few enough parts. -/
theorem uF_whole {bits : Int} {p : List Int} {c : Int} {t : List Int} (h1 : 1 ≤ bits) (h2 : bits ≤ 64) (hp : ∀ x ∈ p, 128 ≤ x ∧ x < 256) (hc0 : 0 ≤ c) (hc1 : c < 128) (hl : p.length < mostP bits) :
    uF bits (p ++ c :: t) 0 = if pv (p ++ [c]) < 2 ^ bits.toNat then (((pv (p ++ [c]) : Nat) : Int), t, 0) else (0, [], 11) := by
  have hm : mostP bits ≤ 10 := by unfold mostP; omega
  have hlt := pv_lt (p ++ [c])
  rw [List.length_append, List.length_singleton] at hlt
  unfold uF
  rw [numF_whole h1 h2 hp hc0 hc1 hl]
  simp only
  rw [if_neg (by simp)]
  obtain ⟨V, hV⟩ : ∃ V, pv (p ++ [c]) = V := ⟨_, rfl⟩
  rw [hV] at hlt ⊢
  by_cases hk : p.length ≤ 8
  · have h63 : 2 ^ (7 * (p.length + 1)) ≤ 2 ^ 63 := pw_le (by omega)
    have h64 : (2 : Nat) ^ 63 < 18446744073709551616 := by decide
    rw [Nat.mod_eq_of_lt (show V < 18446744073709551616 by omega)]
    by_cases hb : bits < 64
    · by_cases hv : V < 2 ^ bits.toNat
      · rw [if_pos hv, if_neg]
        rintro (⟨q, _⟩ | ⟨_, q⟩)
        · omega
        · have := (div_ne V bits.toNat).1 q; omega
      · rw [if_neg hv, if_pos (.inr ⟨hb, (div_ne V bits.toNat).2 (by omega)⟩)]
    · have hb64 : bits.toNat = 64 := by omega
      rw [hb64, if_pos (show V < 2 ^ 64 by omega), if_neg]
      rintro (⟨q, _⟩ | ⟨q, _⟩) <;> omega
  · have h9 : p.length = 9 := by omega
    have hb64 : bits = 64 := by unfold mostP at hl; omega
    subst hb64
    have hg : (p ++ c :: t).getD 9 0 = c := by rw [List.getD_eq_getElem?_getD, List.getElem?_append_right (by omega), h9]; rfl
    have hvv : V = pv p + 2 ^ 63 * c.toNat := by
      rw [← hV, pv_append, h9]
      simp only [pv]
      rw [show (c % 128).toNat = c.toNat by omega]
      simp
    have hpl := pv_lt p
    rw [h9] at hpl
    rw [hg]
    show (if (64 < 7 * ((p.length + 1 : Nat) : Int) ∧ 1 < c) ∨ _ then _ else _) = if V < 2 ^ 64 then _ else _
    by_cases hcc : 1 < c
    · rw [if_pos (.inl ⟨by omega, hcc⟩), if_neg (by omega)]
    · have : V < 2 ^ 64 := by omega
      rw [if_neg (by rintro (⟨_, q⟩ | ⟨q, _⟩) <;> omega), if_pos this, Nat.mod_eq_of_lt this]
theorem uF_over {bits : Int} {p t : List Int} (h1 : 1 ≤ bits) (h2 : bits ≤ 64) (hp : ∀ x ∈ p, 128 ≤ x) (hl : mostP bits ≤ p.length) : uF bits (p ++ t) 0 = (0, [], 11) := by
  obtain ⟨n', k', h⟩ := numF_over (t := t) h1 h2 hp hl
  unfold uF; rw [h]; simp
theorem uF_short {bits : Int} {p : List Int} (h1 : 1 ≤ bits) (h2 : bits ≤ 64) (hp : ∀ x ∈ p, 128 ≤ x) (hl : p.length < mostP bits) : uF bits p 0 = (0, [], 10) := by
  obtain ⟨n', k', h⟩ := numF_short h1 h2 hp hl
  unfold uF; rw [h]; simp

/-- The number with its sign. -/
def sv (p : List Int) (c : Int) : Int := (pv (p ++ [c]) : Int) - if 64 ≤ c then ((2 ^ (7 * (p.length + 1)) : Nat) : Int) else 0
theorem div_fit (x : Int) (b : Nat) : ((x / 2 ^ b != 0) = true ∧ (x / 2 ^ b != -1) = true) ↔ ¬ (-((2 ^ b : Nat) : Int) ≤ x ∧ x < ((2 ^ b : Nat) : Int)) := by
  have e : (2 : Int) ^ b = ((2 ^ b : Nat) : Int) := by simp
  rw [e]
  have h := pos_pw b
  generalize 2 ^ b = P at *
  simp only [bne_iff_ne, ne_eq]
  have h1 := Int.mul_ediv_add_emod x (P : Int)
  have h2 := Int.emod_lt_of_pos x (show (0 : Int) < P by omega)
  have h3 := Int.emod_nonneg x (show (P : Int) ≠ 0 by omega)
  constructor
  · rintro ⟨n0, n1⟩ ⟨l, r⟩
    rcases Int.lt_or_le x 0 with q | q
    · apply n1
      have a : x / P < 0 := Int.ediv_neg_of_neg_of_pos q (by omega)
      have b : -1 ≤ x / P := (Int.le_ediv_iff_mul_le (by omega)).2 (by omega)
      omega
    · exact n0 (Int.ediv_eq_zero_of_lt q r)
  · intro hn
    refine ⟨fun q => ?_, fun q => ?_⟩
    · rw [q] at h1; omega
    · rw [q] at h1; omega
theorem or_high (V k : Nat) (hk : 7 * k ≤ 63) (hV : V < 2 ^ (7 * k)) : Go.bits .or .u64 (V : Int) (IntKind.u64.wrap (18446744073709551615 * 2 ^ (7 * k))) = (V : Int) + 18446744073709551616 - ((2 ^ (7 * k) : Nat) : Int) := by
  have hp : 2 ^ (7 * k) * 2 ^ (64 - 7 * k) = 18446744073709551616 := by rw [← Nat.pow_add, show 7 * k + (64 - 7 * k) = 64 by omega]
  have hp0 := pos_pw (7 * k)
  have hq : 1 ≤ 2 ^ (64 - 7 * k) := pos_pw _
  have hle : 2 ^ (7 * k) ≤ 2 ^ 63 := pw_le hk
  have h63 : (2 : Nat) ^ 63 = 9223372036854775808 := by decide
  have e : (2 : Int) ^ (7 * k) = ((2 ^ (7 * k) : Nat) : Int) := by simp
  rw [e]
  have hw : IntKind.u64.wrap (18446744073709551615 * ((2 ^ (7 * k) : Nat) : Int)) = ((2 ^ (7 * k) * (2 ^ (64 - 7 * k) - 1) : Nat) : Int) := by
    rw [IntKind.wrap_u64]
    have : 2 ^ (7 * k) * (2 ^ (64 - 7 * k) - 1) = 18446744073709551616 - 2 ^ (7 * k) := by rw [Nat.mul_sub, hp, Nat.mul_one]
    rw [this]
    generalize 2 ^ (7 * k) = P at *
    omega
  rw [hw, or_nat V _ (by omega) (by rw [Nat.mul_sub, hp]; omega)]
  have e2 : V ||| 2 ^ (7 * k) * (2 ^ (64 - 7 * k) - 1) = 2 ^ (7 * k) * (2 ^ (64 - 7 * k) - 1) + V := by
    rw [Nat.or_comm, Nat.two_pow_add_eq_or_of_lt hV]
  rw [e2, Nat.mul_sub, hp]
  omega

theorem rng0 (a : Nat) (h : a < 9223372036854775808) : -9223372036854775808 ≤ (a : Int) ∧ (a : Int) < 9223372036854775808 := by omega
theorem rng1 (a : Nat) (h : a < 9223372036854775808) : -9223372036854775808 ≤ (a : Int) - 9223372036854775808 ∧ (a : Int) - 9223372036854775808 < 9223372036854775808 := by omega
/-- What S reads of a number in few enough parts. -/
theorem sF_whole {bits : Int} {p : List Int} {c : Int} {t : List Int} (h1 : 1 ≤ bits) (h2 : bits ≤ 64) (hp : ∀ x ∈ p, 128 ≤ x ∧ x < 256) (hc0 : 0 ≤ c) (hc1 : c < 128) (hl : p.length < mostP bits) :
    sF bits (p ++ c :: t) 0 = if -((2 ^ (bits.toNat - 1) : Nat) : Int) ≤ sv p c ∧ sv p c < ((2 ^ (bits.toNat - 1) : Nat) : Int) then (sv p c, t, 0) else (0, [], 11) := by
  have hm : mostP bits ≤ 10 := by unfold mostP; omega
  have hlt := pv_lt (p ++ [c])
  rw [List.length_append, List.length_singleton] at hlt
  have hvv : pv (p ++ [c]) = pv p + 2 ^ (7 * p.length) * c.toNat := by
    rw [pv_append]
    simp only [pv]
    rw [show (c % 128).toNat = c.toNat by omega]
    simp
  have hpl := pv_lt p
  have e7 : 2 ^ (7 * (p.length + 1)) = 128 * 2 ^ (7 * p.length) := by rw [show 7 * (p.length + 1) = 7 + 7 * p.length by omega, Nat.pow_add]
  unfold sF
  rw [numF_whole h1 h2 hp hc0 hc1 hl]
  simp only
  rw [if_neg (by simp)]
  by_cases hk : p.length ≤ 8
  · have h63 : 2 ^ (7 * (p.length + 1)) ≤ 2 ^ 63 := pw_le (by omega)
    have h63' : (2 : Nat) ^ 63 = 9223372036854775808 := by decide
    have hkey : wrap64 (sN ((pv (p ++ [c]) % 18446744073709551616 : Nat) : Int) (p.length + 1) (decide (64 ≤ c))) = sv p c := by
      rw [Nat.mod_eq_of_lt (show pv (p ++ [c]) < 18446744073709551616 by omega)]
      unfold sN sv
      have hbig : c.toNat < 64 → 2 ^ (7 * p.length) * c.toNat ≤ 2 ^ (7 * p.length) * 63 := fun q => Nat.mul_le_mul_left _ (by omega)
      have hsmall : 64 ≤ c.toNat → 2 ^ (7 * p.length) * 64 ≤ 2 ^ (7 * p.length) * c.toNat := fun q => Nat.mul_le_mul_left _ q
      by_cases hs : 64 ≤ c
      · have := hsmall (by omega)
        rw [if_pos ⟨by simpa using hs, by omega⟩, if_pos hs, or_high _ _ (by omega) hlt]
        unfold wrap64
        omega
      · have := hbig (by omega)
        rw [if_neg (by simp; omega), if_neg hs]
        unfold wrap64
        omega
    rw [hkey, if_neg (by omega)]
    by_cases hf : -((2 ^ (bits.toNat - 1) : Nat) : Int) ≤ sv p c ∧ sv p c < ((2 ^ (bits.toNat - 1) : Nat) : Int)
    · rw [if_pos hf, if_neg (fun q => (div_fit _ _).1 q hf)]
    · rw [if_neg hf, if_pos ((div_fit _ _).2 hf)]
  · have h9 : p.length = 9 := by omega
    have hb64 : bits = 64 := by unfold mostP at hl; omega
    subst hb64
    have hg : (p ++ c :: t).getD 9 0 = c := by rw [List.getD_eq_getElem?_getD, List.getElem?_append_right (by omega), h9]; rfl
    rw [hg]
    have hsv : sv p c = (pv p : Int) + 9223372036854775808 * c - if 64 ≤ c then 1180591620717411303424 else 0 := by
      unfold sv
      rw [hvv, h9]
      have a1 : 2 ^ (7 * 9) = 9223372036854775808 := by decide
      have a2 : 2 ^ (7 * (9 + 1)) = 1180591620717411303424 := by decide
      rw [a1, a2]
      split <;> omega
    have hp9 : pv p < 9223372036854775808 := by rw [h9] at hpl; exact hpl
    have hb : ((2 ^ ((64 : Int).toNat - 1) : Nat) : Int) = 9223372036854775808 := by decide
    have hmod : pv (p ++ [c]) = pv p + 9223372036854775808 * c.toNat := by rw [hvv, h9]
    rw [hb]
    by_cases hc : c = 0
    · subst hc
      rw [if_neg (by simp)]
      have hs : sv p 0 = (pv p : Int) := by rw [hsv]; simp
      have hkey : wrap64 (sN ((pv (p ++ [0]) % 18446744073709551616 : Nat) : Int) (p.length + 1) (decide ((64 : Int) ≤ 0))) = sv p 0 := by
        unfold sN
        rw [if_neg (by simp), hs, hmod]
        unfold wrap64
        omega
      have hd := (div_fit (sv p 0) ((64 : Int).toNat - 1)).1
      rw [hb] at hd
      have hin : -9223372036854775808 ≤ sv p 0 ∧ sv p 0 < 9223372036854775808 := by rw [hs]; exact rng0 _ hp9
      rw [hkey, if_neg (fun q => hd q hin), if_pos hin]
    · by_cases hc2 : c = 127
      · subst hc2
        rw [if_neg (by simp)]
        have hs : sv p 127 = (pv p : Int) - 9223372036854775808 := by rw [hsv, if_pos (by omega)]; omega
        have hkey : wrap64 (sN ((pv (p ++ [127]) % 18446744073709551616 : Nat) : Int) (p.length + 1) (decide ((64 : Int) ≤ 127))) = sv p 127 := by
          unfold sN
          rw [if_neg (by omega), hs, hmod]
          unfold wrap64
          omega
        have hd := (div_fit (sv p 127) ((64 : Int).toNat - 1)).1
        rw [hb] at hd
        have hin : -9223372036854775808 ≤ sv p 127 ∧ sv p 127 < 9223372036854775808 := by rw [hs]; exact rng1 _ hp9
        rw [hkey, if_neg (fun q => hd q hin), if_pos hin]
      · rw [if_pos ⟨by omega, by simpa using hc, by simpa using hc2⟩, if_neg]
        rw [hsv]
        split <;> omega
theorem sF_over {bits : Int} {p t : List Int} (h1 : 1 ≤ bits) (h2 : bits ≤ 64) (hp : ∀ x ∈ p, 128 ≤ x) (hl : mostP bits ≤ p.length) : sF bits (p ++ t) 0 = (0, [], 11) := by
  obtain ⟨n', k', h⟩ := numF_over (t := t) h1 h2 hp hl
  unfold sF; rw [h]; simp
theorem sF_short {bits : Int} {p : List Int} (h1 : 1 ≤ bits) (h2 : bits ≤ 64) (hp : ∀ x ∈ p, 128 ≤ x) (hl : p.length < mostP bits) : sF bits p 0 = (0, [], 10) := by
  obtain ⟨n', k', h⟩ := numF_short h1 h2 hp hl
  unfold sF; rw [h]; simp
end Go.Proofs.Ytnpiicnhdpldaaa.Pure
