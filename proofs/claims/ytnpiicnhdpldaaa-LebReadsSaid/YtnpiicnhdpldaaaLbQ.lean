/-
  Plain arithmetic of what is written (chapter 1): the parts of a number, and the same with more parts than it needs. No condition beyond those that the lemmas state.
-/
import Derived.Test.YtnpiicnhdpldaaaLbP
namespace Go.Proofs.Ytnpiicnhdpldaaa.Pure
set_option linter.unusedVariables false
set_option linter.unusedSimpArgs false
open Go.RowKit Go.Proofs.YtnpiicnhdpldaaaW.PrintWords Go.Proofs.Ytnpiicnhdpldaaa.PLeb Go.Proofs.Ytnpiicnhdpldaaa.Lb

theorem pv_append : ∀ p q : List Int, pv (p ++ q) = pv p + 2 ^ (7 * p.length) * pv q
  | [], q => by simp [pv]
  | c :: p, q => by
    simp only [List.cons_append, pv, List.length_cons]
    rw [pv_append p q, show 7 * (p.length + 1) = 7 + 7 * p.length by omega, Nat.pow_add, Nat.mul_add, Nat.mul_assoc]
    omega
/-- The parts of n: all but the last go on. -/
structure Parts (n : Nat) (p : List Int) (c : Int) : Prop where
  go : ∀ x ∈ p, 128 ≤ x ∧ x < 256
  lo : 0 ≤ c
  hi : c < 128
  val : pv (p ++ [c]) = n
/-- One part more than before, and nothing in it. -/
theorem Parts.pad {n : Nat} {p : List Int} {c : Int} (h : Parts n p c) : Parts n (p ++ [Go.bits .or .u8 c 128]) 0 := by
  have e := or8 c h.lo (by have := h.hi; omega)
  have h0 := h.lo
  have h1 := h.hi
  refine ⟨fun x hx => ?_, by omega, by omega, ?_⟩
  · rcases List.mem_append.1 hx with hx | hx
    · exact h.go x hx
    · rw [List.mem_singleton] at hx
      omega
  · rw [← h.val, List.append_assoc, pv_append, pv_append, e]
    simp only [List.cons_append, List.nil_append, pv]
    rw [show (128 + c % 128) % 128 = c % 128 by omega, pv_append]
    simp [pv]

/-- What leb.U writes. -/
theorem U_f : ∀ (d k n : Nat) (l : List Int), n < 128 ^ (d + 1) → n < 18446744073709551616 → d < k → l.length + d + 2 < 140737488355328 →
    ∃ p c, leb_U.l0 k (n : Int) l = some (l ++ (p ++ [c])) ∧ Parts n p c ∧ p.length ≤ d
  | d, k, n, l, hn, h64, hk, hl => by
    obtain ⟨k, rfl⟩ : ∃ m, k = m + 1 := ⟨k - 1, by omega⟩
    by_cases h : n < 128
    · refine ⟨[], (n : Int), ?_, ⟨by simp, by omega, by omega, ?_⟩, by simp⟩
      · simp only [leb_U.l0]
        rw [if_neg (by omega), if_pos (by omega), show (n : Int) % 256 = n by omega]
        rfl
      · simp only [List.nil_append, pv]
        omega
    · cases d with
      | zero => simp at hn; omega
      | succ d =>
        have hd : n / 128 < 128 ^ (d + 1) := by
          have : 128 ^ (d + 1 + 1) = 128 * 128 ^ (d + 1) := by rw [Nat.pow_succ, Nat.mul_comm]
          omega
        obtain ⟨p, c, h1, h2, h3⟩ := U_f d k (n / 128) (l ++ [Go.bits .or .u8 ((n : Int) % 256) 128]) hd (by omega) (by omega) (by simp; omega)
        have e := or8 ((n : Int) % 256) (by omega) (by omega)
        refine ⟨Go.bits .or .u8 ((n : Int) % 256) 128 :: p, c, ?_, ⟨fun x hx => ?_, h2.lo, h2.hi, ?_⟩, by simp; omega⟩
        · simp only [leb_U.l0]
          rw [if_pos (by omega), if_pos (by omega), show (n : Int) / 128 = ((n / 128 : Nat) : Int) by omega, h1]
          simp
        · rcases List.mem_cons.1 hx with rfl | hx
          · omega
          · exact h2.go x hx
        · have hv := h2.val
          simp only [List.cons_append, pv]
          rw [hv, e]
          omega
theorem U_nil (n : Nat) (h : n < 18446744073709551616) : ∃ p c, leb_U.f 20 [] (n : Int) = some (p ++ [c]) ∧ Parts n p c ∧ p.length ≤ 9 := by
  obtain ⟨p, c, h1, h2, h3⟩ := U_f 9 20 n [] (Nat.lt_trans h (by decide)) h (by decide) (by decide)
  refine ⟨p, c, ?_, h2, h3⟩
  unfold leb_U.f
  simpa using h1
theorem U_nil32 (n : Nat) (h : n < 4294967296) : ∃ p c, leb_U.f 20 [] (n : Int) = some (p ++ [c]) ∧ Parts n p c ∧ p.length ≤ 4 := by
  obtain ⟨p, c, h1, h2, h3⟩ := U_f 4 20 n [] (Nat.lt_trans h (by decide)) (by omega) (by decide) (by decide)
  refine ⟨p, c, ?_, h2, h3⟩
  unfold leb_U.f
  simpa using h1

/-- A number of 32 bits is read as it is, in five parts at most. -/
theorem uF_parts {n : Nat} {p : List Int} {c : Int} (h : Parts n p c) (hn : n < 4294967296) : uF 32 (p ++ [c]) 0 = if p.length < 5 then ((n : Int), [], 0) else (0, [], 11) := by
  have hF : numF 32 (p ++ [c]) 0 = numG 5 ((0 : Nat) : Int) 0 (p ++ [c]) := by
    unfold numF; rw [if_neg (by omega), if_pos rfl]; rfl
  by_cases hl : p.length < 5
  · rw [if_pos hl]
    have hg := numG_whole p c [] 5 0 0 h.go h.lo h.hi hl (by omega) (by simp)
    rw [h.val] at hg
    unfold uF
    rw [hF, hg]
    simp only [Nat.mul_zero, Nat.pow_zero, Nat.mul_one, Nat.zero_add]
    rw [Nat.mod_eq_of_lt (show n < 18446744073709551616 by omega)]
    rw [if_neg (by simp), if_neg]
    rintro (⟨h1, _⟩ | ⟨_, h2⟩)
    · omega
    · have : (n : Int) / 2 ^ (32 : Int).toNat = 0 := by
        show (n : Int) / 4294967296 = 0
        omega
      rw [this] at h2
      simp at h2
  · rw [if_neg hl]
    have e : p ++ [c] = p.take 5 ++ (p.drop 5 ++ [c]) := by rw [← List.append_assoc, List.take_append_drop]
    have hlen : (p.take 5).length = 5 := by rw [List.length_take]; omega
    obtain ⟨n', hg⟩ := numG_over (p.take 5) 0 (p.drop 5 ++ [c]) 0 (fun x hx => (h.go x (List.mem_of_mem_take hx)).1)
    rw [hlen, ← e] at hg
    unfold uF
    rw [hF]
    have hg' : numG 5 ((0 : Nat) : Int) 0 (p ++ [c]) = _ := hg
    rw [hg']
    simp
end Go.Proofs.Ytnpiicnhdpldaaa.Pure
