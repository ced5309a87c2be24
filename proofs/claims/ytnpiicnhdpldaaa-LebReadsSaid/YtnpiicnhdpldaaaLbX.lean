/-
  Plain facts of what is written and read back (chapter 1). No condition beyond those that the lemmas state.
-/
import Derived.Test.YtnpiicnhdpldaaaLbU
namespace Go.Proofs.Ytnpiicnhdpldaaa.Pure
set_option linter.unusedVariables false
set_option linter.unusedSimpArgs false
open Go.RowKit Go.Proofs.YtnpiicnhdpldaaaW.PrintWords Go.Proofs.Ytnpiicnhdpldaaa.PLeb Go.Proofs.Ytnpiicnhdpldaaa.Lb

/-- The parts of n, no more than it needs. -/
theorem U_full : ∀ (d k n : Nat) (l : List Int), n < 128 ^ (d + 1) → n < 18446744073709551616 → d < k → l.length + d + 2 < 140737488355328 →
    ∃ p c, leb_U.l0 k (n : Int) l = some (l ++ (p ++ [c])) ∧ Parts n p c ∧ p.length ≤ d ∧ (p = [] ∨ 2 ^ (7 * p.length) ≤ n)
  | d, k, n, l, hn, h64, hk, hl => by
    obtain ⟨k, rfl⟩ : ∃ m, k = m + 1 := ⟨k - 1, by omega⟩
    by_cases h : n < 128
    · refine ⟨[], (n : Int), ?_, ⟨by simp, by omega, by omega, ?_⟩, by simp, .inl rfl⟩
      · simp only [leb_U.l0]
        rw [if_neg (by omega), if_pos (by omega), show (n : Int) % 256 = n by omega]
        rfl
      · simp only [List.nil_append, pv]
        omega
    · cases d with
      | zero => simp at hn; omega
      | succ d =>
        have hd : n / 128 < 128 ^ (d + 1) := by
          have : 128 ^ (d + 1 + 1) = 128 * 128 ^ (d + 1) := by rw [Nat.pow_succ, Nat.mul_comm]
          omega
        obtain ⟨p, c, h1, h2, h3, h4⟩ := U_full d k (n / 128) (l ++ [Go.bits .or .u8 ((n : Int) % 256) 128]) hd (by omega) (by omega) (by simp; omega)
        have e := or8 ((n : Int) % 256) (by omega) (by omega)
        refine ⟨Go.bits .or .u8 ((n : Int) % 256) 128 :: p, c, ?_, ⟨fun x hx => ?_, h2.lo, h2.hi, ?_⟩, by simp; omega, .inr ?_⟩
        · simp only [leb_U.l0]
          rw [if_pos (by omega), if_pos (by omega), show (n : Int) / 128 = ((n / 128 : Nat) : Int) by omega, h1]
          simp
        · rcases List.mem_cons.1 hx with rfl | hx
          · omega
          · exact h2.go x hx
        · have hv := h2.val
          simp only [List.cons_append, pv]
          rw [hv, e]
          omega
        · rw [List.length_cons, show 7 * (p.length + 1) = 7 + 7 * p.length by omega, Nat.pow_add]
          rcases h4 with rfl | h4
          · simp; omega
          · have : 2 ^ 7 = 128 := rfl
            omega
theorem U_row (n : Nat) (h : n < 18446744073709551616) (l : List Int) (hl : l.length ≤ 100000) : ∃ p c, leb_U.f 20 l (n : Int) = some (l ++ (p ++ [c])) ∧ Parts n p c ∧ p.length ≤ 9 ∧ (p = [] ∨ 2 ^ (7 * p.length) ≤ n) := by
  obtain ⟨p, c, h1, h2, h3, h4⟩ := U_full 9 20 n l (Nat.lt_trans h (by decide)) h (by decide) (by omega)
  refine ⟨p, c, ?_, h2, h3, h4⟩
  unfold leb_U.f
  rw [if_pos (by simp; omega)]
  simpa using h1

/-- The parts of m, of either sign. -/
structure SParts (m : Int) (p : List Int) (c : Int) : Prop where
  go : ∀ x ∈ p, 128 ≤ x ∧ x < 256
  lo : 0 ≤ c
  hi : c < 128
  val : sv p c = m
theorem sv_cons (x : Int) (p : List Int) (c : Int) : sv (x :: p) c = x % 128 + 128 * sv p c := by
  unfold sv
  simp only [List.cons_append, pv, List.length_cons]
  have e : 2 ^ (7 * (p.length + 1 + 1)) = 128 * 2 ^ (7 * (p.length + 1)) := by rw [show 7 * (p.length + 1 + 1) = 7 + 7 * (p.length + 1) by omega, Nat.pow_add]
  rw [e]
  split <;> omega
theorem S_full : ∀ (d k : Nat) (n : Int) (l : List Int), -(64 * 128 ^ d) ≤ n → n < 64 * 128 ^ d → -9223372036854775808 ≤ n → n ≤ 9223372036854775807 → d < k → l.length + d + 2 < 140737488355328 →
    ∃ p c, leb_S.l0 k n l = some (l ++ (p ++ [c])) ∧ SParts n p c ∧ p.length ≤ d ∧ (p = [] ∨ ¬ (-((2 ^ (7 * p.length - 1) : Nat) : Int) ≤ n ∧ n < ((2 ^ (7 * p.length - 1) : Nat) : Int)))
  | d, k, n, l, hn1, hn2, m1, m2, hk, hl => by
    obtain ⟨k, rfl⟩ : ∃ m, k = m + 1 := ⟨k - 1, by omega⟩
    have a1 := and127 (n % 256) (by omega) (by omega)
    have o1 := or8 (n % 256) (by omega) (by omega)
    by_cases h : -64 ≤ n ∧ n ≤ 63
    · refine ⟨[], Go.bits .and .u8 (n % 256) 127, ?_, ⟨by simp, by omega, by omega, ?_⟩, by simp, .inl rfl⟩
      · simp only [leb_S.l0]
        rw [if_neg (by omega), if_neg (by omega), if_pos (by omega)]
        rfl
      · unfold sv
        rw [a1]
        simp only [List.nil_append, pv, List.length_nil]
        have e : ((2 ^ (7 * (0 + 1)) : Nat) : Int) = 128 := by decide
        rw [e]
        split <;> omega
    · cases d with
      | zero => simp at hn1 hn2; omega
      | succ d =>
        have e7 : (128 : Int) ^ (d + 1) = 128 * 128 ^ d := by rw [Int.pow_succ, Int.mul_comm]
        rw [e7] at hn1 hn2
        obtain ⟨p, c, h1, h2, h3, h4⟩ := S_full d k (n / 128) (l ++ [Go.bits .or .u8 (n % 256) 128]) (by omega) (by omega) (by omega) (by omega) (by omega) (by simp; omega)
        refine ⟨Go.bits .or .u8 (n % 256) 128 :: p, c, ?_, ⟨fun x hx => ?_, h2.lo, h2.hi, ?_⟩, by simp; omega, .inr ?_⟩
        · simp only [leb_S.l0]
          by_cases q : n < -64
          · rw [if_pos q, if_pos (by omega), h1]; simp
          · rw [if_neg q, if_pos (by omega), if_pos (by omega), h1]; simp
        · rcases List.mem_cons.1 hx with rfl | hx
          · omega
          · exact h2.go x hx
        · rw [sv_cons, h2.val, o1]
          omega
        · rw [List.length_cons]
          rcases h4 with rfl | h4
          · have e : ((2 ^ (7 * (([] : List Int).length + 1) - 1) : Nat) : Int) = 64 := by decide
            rw [e]; omega
          · have hpos : 1 ≤ p.length ∨ p.length = 0 := by omega
            rcases hpos with hpos | hpos
            · have e : 2 ^ (7 * (p.length + 1) - 1) = 128 * 2 ^ (7 * p.length - 1) := by rw [show 7 * (p.length + 1) - 1 = 7 + (7 * p.length - 1) by omega, Nat.pow_add]
              rw [e]
              omega
            · rw [hpos]
              have e : ((2 ^ (7 * (0 + 1) - 1) : Nat) : Int) = 64 := by decide
              rw [e]; omega
theorem S_row (n : Int) (m1 : -9223372036854775808 ≤ n) (m2 : n ≤ 9223372036854775807) (l : List Int) (hl : l.length ≤ 100000) :
    ∃ p c, leb_S.f 20 l n = some (l ++ (p ++ [c])) ∧ SParts n p c ∧ p.length ≤ 9 ∧ (p = [] ∨ ¬ (-((2 ^ (7 * p.length - 1) : Nat) : Int) ≤ n ∧ n < ((2 ^ (7 * p.length - 1) : Nat) : Int))) := by
  have hp : (64 : Int) * 128 ^ 9 = 590295810358705651712 := by decide
  obtain ⟨p, c, h1, h2, h3, h4⟩ := S_full 9 20 n l (by rw [hp]; omega) (by rw [hp]; omega) m1 m2 (by decide) (by omega)
  refine ⟨p, c, ?_, h2, h3, h4⟩
  unfold leb_S.f
  rw [if_pos (by simp; omega)]
  simpa using h1

theorem uF_back {n : Nat} {p : List Int} {c : Int} {t : List Int} {b : Nat} (h : Parts n p c) (hm : p = [] ∨ 2 ^ (7 * p.length) ≤ n) (h1 : 1 ≤ b) (h2 : b ≤ 64) (hb : n < 2 ^ b) : uF (b : Int) (p ++ c :: t) 0 = ((n : Int), t, 0) := by
  have hl : p.length < mostP (b : Int) := by
    unfold mostP
    rcases hm with rfl | hm
    · simp; omega
    · have : 7 * p.length < b := by
        rcases Nat.lt_or_ge (7 * p.length) b with q | q
        · exact q
        · have := pw_le q; omega
      omega
  rw [uF_whole (by omega) (by omega) h.go h.lo h.hi hl, h.val, Int.toNat_natCast, if_pos hb]
theorem uF_less {n : Nat} {p : List Int} {c : Int} {b : Nat} (h : Parts n p c) (h1 : 1 ≤ b) (h2 : b ≤ 64) (hb : 2 ^ b ≤ n) : uF (b : Int) (p ++ [c]) 0 = (0, [], 11) := by
  rcases Nat.lt_or_ge p.length (mostP (b : Int)) with hl | hl
  · rw [uF_whole (by omega) (by omega) h.go h.lo h.hi hl, h.val, Int.toNat_natCast, if_neg (by omega)]
  · exact uF_over (by omega) (by omega) (fun x hx => (h.go x hx).1) hl
theorem sF_back {m : Int} {p : List Int} {c : Int} {t : List Int} {b : Nat} (h : SParts m p c) (hm : p = [] ∨ ¬ (-((2 ^ (7 * p.length - 1) : Nat) : Int) ≤ m ∧ m < ((2 ^ (7 * p.length - 1) : Nat) : Int))) (h1 : 1 ≤ b) (h2 : b ≤ 64)
    (hb : -((2 ^ (b - 1) : Nat) : Int) ≤ m ∧ m < ((2 ^ (b - 1) : Nat) : Int)) : sF (b : Int) (p ++ c :: t) 0 = (m, t, 0) := by
  have hl : p.length < mostP (b : Int) := by
    unfold mostP
    rcases hm with rfl | hm
    · simp; omega
    · have : 7 * p.length - 1 < b - 1 := by
        rcases Nat.lt_or_ge (7 * p.length - 1) (b - 1) with q | q
        · exact q
        · have := pw_le q; omega
      omega
  rw [sF_whole (by omega) (by omega) h.go h.lo h.hi hl, h.val, Int.toNat_natCast, if_pos hb]
theorem sF_less {m : Int} {p : List Int} {c : Int} {b : Nat} (h : SParts m p c) (h1 : 1 ≤ b) (h2 : b ≤ 64) (hb : ¬ (-((2 ^ (b - 1) : Nat) : Int) ≤ m ∧ m < ((2 ^ (b - 1) : Nat) : Int))) : sF (b : Int) (p ++ [c]) 0 = (0, [], 11) := by
  rcases Nat.lt_or_ge p.length (mostP (b : Int)) with hl | hl
  · rw [sF_whole (by omega) (by omega) h.go h.lo h.hi hl, h.val, Int.toNat_natCast, if_neg hb]
  · exact sF_over (by omega) (by omega) (fun x hx => (h.go x hx).1) hl

theorem strOfNums_bytesOf (s : ByteArray) : strOfNums (bytesOf s) = s := by
  apply ByteArray.ext
  apply Array.toList_inj.1
  rw [strOfNums_data]
  unfold bytesOf
  rw [List.map_map]
  have : ((fun n : Int => UInt8.ofNat n.toNat) ∘ fun b : UInt8 => ((b.toNat : Nat) : Int)) = id := by
    funext b
    simp
  rw [this, List.map_id]
theorem name_back (s : ByteArray) (hs : s.size ≤ 1000) (hv : validG s s.size 0 = true) (l : List Int) (hl : l.length ≤ 1000) : ∃ e, leb_Name.f 20 l s = some (l ++ e) ∧ nameF e 0 = (s, [], 0) ∧ e.length ≤ 1010 ∧ ∀ x ∈ e, 0 ≤ x ∧ x < 256 := by
  obtain ⟨p, c, h1, h2, h3, h4⟩ := U_row s.size (by omega) l (by omega)
  have hw : IntKind.u64.wrap ((s.size : Nat) : Int) = ((s.size : Nat) : Int) := by rw [IntKind.wrap_u64]; omega
  refine ⟨p ++ c :: bytesOf s, ?_, ?_, ?_, ?_⟩
  · unfold leb_Name.f
    rw [hw, h1, Option.bind_some, if_pos (by simp; omega)]
    simp
  · unfold nameF
    rw [show (32 : Int) = ((32 : Nat) : Int) from rfl, uF_back h2 h4 (by decide) (by decide) (Nat.lt_of_le_of_lt hs (by decide))]
    simp only
    rw [if_neg (by simp), if_neg (by rw [bytesOf_length]; omega), Int.toNat_natCast, List.take_of_length_le (by rw [bytesOf_length]; omega), strOfNums_bytesOf, if_pos hv, List.drop_of_length_le (by rw [bytesOf_length]; omega)]
  · simp [bytesOf_length]; omega
  · intro x hx
    rcases List.mem_append.1 hx with hx | hx
    · have := h2.go x hx; omega
    · rcases List.mem_cons.1 hx with rfl | hx
      · have := h2.lo; have := h2.hi; omega
      · unfold bytesOf at hx
        obtain ⟨b, _, rfl⟩ := List.mem_map.1 hx
        have := b.toNat_lt
        omega

/-- All that is written and read of two numbers and a name. -/
structure Back (n : Nat) (m : Int) (s : ByteArray) (E1 E12 E E2 T1 T2 : List Int) : Prop where
  u : leb_U.f 20 [] (n : Int) = some E1
  us : leb_S.f 20 E1 m = some E12
  usn : leb_Name.f 20 E12 s = some E
  sn : leb_S.f 20 [] m = some E2
  b1 : ∀ x ∈ E1, 0 ≤ x ∧ x < 256
  b2 : ∀ x ∈ E2, 0 ≤ x ∧ x < 256
  b3 : ∀ x ∈ E, 0 ≤ x ∧ x < 256
  l1 : E1.length ≤ 10000
  l12 : E12.length ≤ 10000
  l2 : E2.length ≤ 10000
  l3 : E.length ≤ 10000
  ru : ∀ b : Nat, 1 ≤ b → b ≤ 64 → n < 2 ^ b → uF (b : Int) E 0 = ((n : Int), T1, 0)
  rs : ∀ b : Nat, 1 ≤ b → b ≤ 64 → (-((2 ^ (b - 1) : Nat) : Int) ≤ m ∧ m < ((2 ^ (b - 1) : Nat) : Int)) → sF (b : Int) T1 0 = (m, T2, 0)
  rn : nameF T2 0 = (s, [], 0)
  fu : ∀ b : Nat, 1 ≤ b → b ≤ 64 → 2 ^ b ≤ n → uF (b : Int) E1 0 = (0, [], 11)
  fs : ∀ b : Nat, 1 ≤ b → b ≤ 64 → ¬ (-((2 ^ (b - 1) : Nat) : Int) ≤ m ∧ m < ((2 ^ (b - 1) : Nat) : Int)) → sF (b : Int) E2 0 = (0, [], 11)
theorem parts_range {p : List Int} {c : Int} (hp : ∀ x ∈ p, 128 ≤ x ∧ x < 256) (h0 : 0 ≤ c) (h1 : c < 128) : ∀ x ∈ p ++ [c], 0 ≤ x ∧ x < 256 := fun x hx => by
  rcases List.mem_append.1 hx with hx | hx
  · have := hp x hx; omega
  · rw [List.mem_singleton] at hx; omega
theorem back_all (n : Nat) (m : Int) (s : ByteArray) (hn : n < 18446744073709551616) (m1 : -9223372036854775808 ≤ m) (m2 : m ≤ 9223372036854775807) (hs : s.size ≤ 1000) (hv : validG s s.size 0 = true) :
    ∃ E1 E12 E E2 T1 T2, Back n m s E1 E12 E E2 T1 T2 := by
  obtain ⟨p, c, u1, u2, u3, u4⟩ := U_row n hn [] (by simp)
  obtain ⟨q, d, s1, s2, s3, s4⟩ := S_row m m1 m2 ([] ++ (p ++ [c])) (by simp; omega)
  obtain ⟨q', d', r1, r2, r3, r4⟩ := S_row m m1 m2 [] (by simp)
  obtain ⟨e, n1, n2, n3, n4⟩ := name_back s hs hv ([] ++ (p ++ [c]) ++ (q ++ [d])) (by simp; omega)
  rw [List.nil_append] at u1 r1
  rw [List.nil_append] at s1 n1
  refine ⟨p ++ [c], p ++ [c] ++ (q ++ [d]), p ++ [c] ++ (q ++ [d]) ++ e, q' ++ [d'], q ++ d :: e, e, u1, s1, n1, r1, parts_range u2.go u2.lo u2.hi, parts_range r2.go r2.lo r2.hi, ?_, by simp; omega, by simp; omega, by simp; omega, by simp; omega, ?_, ?_, n2, ?_, ?_⟩
  · intro x hx
    rcases List.mem_append.1 hx with hx | hx
    · rcases List.mem_append.1 hx with hx | hx
      · exact parts_range u2.go u2.lo u2.hi x hx
      · exact parts_range s2.go s2.lo s2.hi x hx
    · exact n4 x hx
  · intro b b1 b2 hb
    have := uF_back (t := q ++ d :: e) u2 u4 b1 b2 hb
    simpa using this
  · intro b b1 b2 hb
    exact sF_back s2 s4 b1 b2 hb
  · intro b b1 b2 hb
    exact uF_less u2 b1 b2 hb
  · intro b b1 b2 hb
    exact sF_less r2 b1 b2 hb
end Go.Proofs.Ytnpiicnhdpldaaa.Pure
