/-
  The law LebWrites: what is written is the document's. No condition but those of every slice and string that is read.
-/
import Derived.Test.YtnpiicnhdpldaaaLbS
import Derived.Test.YtnpiicnhdpldaaaLbQ
namespace Go.Proofs.Ytnpiicnhdpldaaa.Pure
set_option linter.unusedVariables false
set_option linter.unusedSimpArgs false
open Go.RowKit Go.Proofs.YtnpiicnhdpldaaaW.PrintWords Go.Proofs.Ytnpiicnhdpldaaa.PLeb Go.Proofs.Ytnpiicnhdpldaaa.Lb

theorem wr64 {x : Int} (h1 : -9223372036854775808 ≤ x) (h2 : x ≤ 9223372036854775807) : wrap64 x = x := by unfold wrap64; omega
theorem U_both : ∀ (d k n : Nat) (l l' : List Int), n < 128 ^ (d + 1) → n < 18446744073709551616 → d < k → l.length + d + 2 < 140737488355328 → l'.length + d + 2 < 140737488355328 →
    ∃ e, leb_U.l0 k (n : Int) l = some (l ++ e) ∧ bodkinref01_U.l0 k (n : Int) l' = some (l' ++ e) ∧ e.length ≤ d + 1
  | d, k, n, l, l', hn, h64, hk, hl, hl' => by
    obtain ⟨k, rfl⟩ : ∃ m, k = m + 1 := ⟨k - 1, by omega⟩
    by_cases h : n < 128
    · refine ⟨[(n : Int) % 256], ?_, ?_, by simp⟩
      · simp only [leb_U.l0]
        rw [if_neg (by omega), if_pos (by omega)]
      · simp only [bodkinref01_U.l0]
        rw [if_neg (by omega), if_pos (by omega)]
    · cases d with
      | zero => simp at hn; omega
      | succ d =>
        have hd : n / 128 < 128 ^ (d + 1) := by
          have : 128 ^ (d + 1 + 1) = 128 * 128 ^ (d + 1) := by rw [Nat.pow_succ, Nat.mul_comm]
          omega
        have e1 := or8 ((n : Int) % 256) (by omega) (by omega)
        have e2 : (IntKind.u64.wrap (128 + Int.tmod (n : Int) 128)) % 256 = 128 + (n : Int) % 256 % 128 := by
          rw [Int.tmod_eq_emod_of_nonneg (by omega), IntKind.wrap_u64]; omega
        have e3 : IntKind.u64.wrap (Int.tdiv (n : Int) 128) = ((n / 128 : Nat) : Int) := by
          rw [Int.tdiv_eq_ediv_of_nonneg (by omega), IntKind.wrap_u64]; omega
        obtain ⟨e, h1, h2, h3⟩ := U_both d k (n / 128) (l ++ [Go.bits .or .u8 ((n : Int) % 256) 128]) (l' ++ [Go.bits .or .u8 ((n : Int) % 256) 128]) hd (by omega) (by omega) (by simp; omega) (by simp; omega)
        refine ⟨Go.bits .or .u8 ((n : Int) % 256) 128 :: e, ?_, ?_, by simp; omega⟩
        · simp only [leb_U.l0]
          rw [if_pos (by omega), if_pos (by omega), show (n : Int) / 128 = ((n / 128 : Nat) : Int) by omega, h1]
          simp
        · simp only [bodkinref01_U.l0]
          rw [if_pos (by omega), if_pos (by omega), e2, e3, ← e1, h2]
          simp
theorem U_two (n : Nat) (h : n < 18446744073709551616) (l : List Int) (hl : l.length ≤ 1000) : ∃ e, leb_U.f 20 l (n : Int) = some (l ++ e) ∧ bodkinref01_U.f 20 (n : Int) = some e ∧ e.length ≤ 10 := by
  obtain ⟨e, h1, h2, h3⟩ := U_both 9 20 n l [] (Nat.lt_trans h (by decide)) h (by decide) (by omega) (by simp)
  refine ⟨e, ?_, ?_, h3⟩
  · unfold leb_U.f
    rw [if_pos (by simp; omega)]
    simpa using h1
  · unfold bodkinref01_U.f
    simpa using h2

theorem S_both : ∀ (d k : Nat) (n : Int) (l l' : List Int), -(64 * 128 ^ d) ≤ n → n < 64 * 128 ^ d → -9223372036854775808 ≤ n → n ≤ 9223372036854775807 → d < k → l.length + d + 2 < 140737488355328 → l'.length + d + 2 < 140737488355328 →
    ∃ e, leb_S.l0 k n l = some (l ++ e) ∧ bodkinref01_S.l0 (2 * k) n l' = some (l' ++ e) ∧ e.length ≤ d + 1
  | d, k, n, l, l', hn1, hn2, m1, m2, hk, hl, hl' => by
    obtain ⟨k, rfl⟩ : ∃ m, k = m + 1 := ⟨k - 1, by omega⟩
    have a1 := and127 (n % 256) (by omega) (by omega)
    have o1 := or8 (n % 256) (by omega) (by omega)
    rw [show 2 * (k + 1) = 2 * k + 1 + 1 by omega]
    by_cases h : -64 ≤ n ∧ n ≤ 63
    · refine ⟨[Go.bits .and .u8 (n % 256) 127], ?_, ?_, by simp⟩
      · simp only [leb_S.l0]
        rw [if_neg (by omega), if_neg (by omega), if_pos (by omega)]
      · simp only [bodkinref01_S.l0, bodkinref01_S.j1]
        rw [if_neg (by omega), if_neg (by simp; omega)]
        by_cases c : n < 0
        · rw [if_pos c, if_pos (by omega), a1, wr64 (by omega) (by omega)]
          rw [show (n + 128) % 256 = n % 256 % 128 by omega]
        · rw [if_neg c, if_pos (by omega), a1]
          rw [show n % 256 = n % 256 % 128 by omega]
          rw [show n % 256 % 128 % 128 = n % 256 % 128 by omega]
    · cases d with
      | zero => simp at hn1 hn2; omega
      | succ d =>
        have e7 : (128 : Int) ^ (d + 1) = 128 * 128 ^ d := by rw [Int.pow_succ, Int.mul_comm]
        rw [e7] at hn1 hn2
        obtain ⟨e, h1, h2, h3⟩ := S_both d k (n / 128) (l ++ [Go.bits .or .u8 (n % 256) 128]) (l' ++ [Go.bits .or .u8 (n % 256) 128]) (by omega) (by omega) (by omega) (by omega) (by omega) (by simp; omega) (by simp; omega)
        have ref : bodkinref01_S.j1 (2 * k + 1) n l' true = some (l' ++ (Go.bits .or .u8 (n % 256) 128 :: e)) := by
          simp only [bodkinref01_S.j1]
          rw [if_pos trivial]
          by_cases c : Int.tmod n 128 < 0
          · have ht : Int.tmod n 128 = n % 128 - 128 := by
              have h3 := Int.tmod_def n 128
              have hneg : n < 0 := by
                rcases Int.lt_or_le n 0 with q | q
                · exact q
                · rw [Int.tmod_eq_emod_of_nonneg q] at c; omega
              have b1 := Int.neg_tmod (-n) 128
              rw [Int.neg_neg, Int.tmod_eq_emod_of_nonneg (a := -n) (by omega)] at b1
              omega
            rw [if_pos c, if_pos (by omega), ht, wr64 (x := n % 128 - 128 + 128) (by omega) (by omega), wr64 (x := n - (n % 128 - 128 + 128)) (by omega) (by omega), wr64 (x := 128 + (n % 128 - 128 + 128)) (by omega) (by omega)]
            have hx : Int.tdiv (n - (n % 128 - 128 + 128)) 128 = n / 128 := by
              rw [show n - (n % 128 - 128 + 128) = 128 * (n / 128) by omega]
              exact Int.mul_tdiv_cancel_left _ (by omega)
            rw [hx, wr64 (by omega) (by omega), show (128 + (n % 128 - 128 + 128)) % 256 = Go.bits .or .u8 (n % 256) 128 by rw [o1]; omega, h2]
            simp
          · have ht : Int.tmod n 128 = n % 128 := by
              have h3 := Int.tmod_def n 128
              have b1 : Int.tmod n 128 < 128 := Int.tmod_lt_of_pos n (by omega)
              omega
            rw [if_neg c, if_pos (by omega), ht, wr64 (x := n - n % 128) (by omega) (by omega), wr64 (x := 128 + n % 128) (by omega) (by omega)]
            have hx : Int.tdiv (n - n % 128) 128 = n / 128 := by
              rw [show n - n % 128 = 128 * (n / 128) by omega]
              exact Int.mul_tdiv_cancel_left _ (by omega)
            rw [hx, wr64 (by omega) (by omega), show (128 + n % 128) % 256 = Go.bits .or .u8 (n % 256) 128 by rw [o1]; omega, h2]
            simp
        refine ⟨Go.bits .or .u8 (n % 256) 128 :: e, ?_, ?_, by simp; omega⟩
        · simp only [leb_S.l0]
          by_cases c : n < -64
          · rw [if_pos c, if_pos (by omega), h1]; simp
          · rw [if_neg c, if_pos (by omega), if_pos (by omega), h1]; simp
        · simp only [bodkinref01_S.l0]
          by_cases c : n > 63
          · rw [if_pos c, ref]
          · rw [if_neg c, decide_eq_true (show n < -64 by omega), ref]
theorem S_two (n : Int) (m1 : -9223372036854775808 ≤ n) (m2 : n ≤ 9223372036854775807) (l : List Int) (hl : l.length ≤ 1000) : ∃ e, leb_S.f 20 l n = some (l ++ e) ∧ bodkinref01_S.f 40 n = some e ∧ e.length ≤ 10 := by
  have hp : (64 : Int) * 128 ^ 9 = 590295810358705651712 := by decide
  obtain ⟨e, h1, h2, h3⟩ := S_both 9 20 n l [] (by rw [hp]; omega) (by rw [hp]; omega) m1 m2 (by decide) (by omega) (by simp)
  refine ⟨e, ?_, ?_, h3⟩
  · unfold leb_S.f
    rw [if_pos (by simp; omega)]
    simpa using h1
  · unfold bodkinref01_S.f
    simpa using h2
theorem N_two (s : ByteArray) (hs : s.size ≤ 1000) (l : List Int) (hl : l.length ≤ 1000) : ∃ e, leb_Name.f 20 l s = some (l ++ e) ∧ bodkinref01_Name.f 20 s = some e ∧ e.length ≤ 1010 := by
  obtain ⟨e, h1, h2, h3⟩ := U_two s.size (by omega) l hl
  have hw : IntKind.u64.wrap ((s.size : Nat) : Int) = ((s.size : Nat) : Int) := by rw [IntKind.wrap_u64]; omega
  refine ⟨e ++ bytesOf s, ?_, ?_, by rw [List.length_append, bytesOf_length]; omega⟩
  · unfold leb_Name.f
    rw [hw, h1, Option.bind_some, if_pos (by rw [List.length_append]; omega), List.append_assoc]
  · unfold bodkinref01_Name.f
    rw [hw, h2, Option.bind_some, if_pos (by omega)]
end Go.Proofs.Ytnpiicnhdpldaaa.Pure
namespace Go.Proofs.Ytnpiicnhdpldaaa.Lb
open Go.RowKit Go.Proofs.YtnpiicnhdpldaaaW.PrintWords Go.Proofs.Ytnpiicnhdpldaaa.PLeb Go.Proofs.Ytnpiicnhdpldaaa.Pure
set_option maxRecDepth 100000 in
theorem writes_big (A : Option Addr) (c k : Nat) (n m : Int) (s : ByteArray) (w : World) (h : (k : Int) > 1000 ∨ (s.size : Int) > 1000) :
    Calls Try.prog 5 #[.slice A k c, .int .u64 n, .int .i64 m, .string s] w fun e w' => e = .returned (.bool true) ∧ Below w.heap.size w w' := by
  by_cases h1 : (k : Int) > 1000
  · clear h
    go_enter Try.func5, Try.ntmps5
    go_wp2_with (go_at_call 9; refine (awake_c _).mono ?_; rintro e w1 ⟨rfl, hb⟩; have HB := Lib.hid hb; clear hb)
    go_ret
    exact ⟨rfl, HB.out⟩
  · have h2 : (s.size : Int) > 1000 := by omega
    have h3 : (k : Int) ≤ 1000 := by omega
    clear h h1
    go_enter Try.func5, Try.ntmps5
    go_wp2_with (go_at_call 9; refine (awake_c _).mono ?_; rintro e w1 ⟨rfl, hb⟩; have HB := Lib.hid hb; clear hb)
    go_ret
    exact ⟨rfl, HB.out⟩
theorem writes_walk (a0 : Option Addr) (len0 cap0 : Nat) (z0 : List Int) (a1 a2 : Int) (a3 : ByteArray) (w : World) (w0 : (a0 = none ∧ len0 = 0 ∧ cap0 = 0 ∧ z0 = []) ∨ ∃ x, a0 = some x ∧ len0 ≤ cap0 ∧ cap0 ≤ maxLen ∧ z0.length = cap0 ∧ (∀ i, i < z0.length → w.cell? (x.add i) = some (.int .u8 (z0.getD i 0))) ∧ ∀ n ∈ z0, (Lit.int .u8 n).wf = true) (y0 : len0 * 1 ≤ 140737488351232) (w1 : (Lit.int .u64 a1).wf = true) (w2 : (Lit.int .i64 a2).wf = true) (w3 : a3.size ≤ 140737488351232) :
    Calls Try.prog 5 #[.slice a0 len0 cap0, .int .u64 a1, .int .i64 a2, .string a3] w fun e w' => e = .returned (.bool true) ∧ Below w.heap.size w w' := by
  obtain ⟨l0, rfl, hr0, hm0, hw0, hc0⟩ := ReadsInt.ofRowC w0
  by_cases h : (l0.length : Int) > 1000 ∨ (a3.size : Int) > 1000
  · exact writes_big a0 cap0 l0.length a1 a2 a3 w h
  · obtain ⟨q1, q2⟩ := bounds_u64 w1
    obtain ⟨q3, q4⟩ := bounds_i64 w2
    obtain ⟨n, rfl⟩ := Int.eq_ofNat_of_zero_le q1
    obtain ⟨e1, u1, u2, u3⟩ := U_two n (by omega) l0 (by omega)
    obtain ⟨e2, s1, s2, s3⟩ := S_two a2 q3 q4 l0 (by omega)
    obtain ⟨e3, n1, n2, n3⟩ := N_two a3 (by omega) l0 (by omega)
    exact writes_law a0 cap0 l0 (n : Int) a2 a3 w hr0 hc0 (by omega) (by omega) e1 e2 e3 u1 s1 n1 (by omega) (by omega) (by omega) u2 s2 n2
end Go.Proofs.Ytnpiicnhdpldaaa.Lb
