/-
  The walk of the reader's S (leb). No condition but that the reader's block is one, and that a reader with an error has no bytes.
-/
import Derived.Test.YtnpiicnhdpldaaaLbC
namespace Go.Proofs.Ytnpiicnhdpldaaa.Lb
set_option linter.unusedVariables false
set_option linter.unusedSimpArgs false
open Go.RowKit Go.Proofs.YtnpiicnhdpldaaaW.PrintWords

/-- A number's bits, with those that its sign gives. -/
def sN (n : Int) (k : Nat) (s : Bool) : Int := if s = true ∧ k ≤ 9 then (Go.bits .or .u64 n (IntKind.u64.wrap (18446744073709551615 * 2 ^ (7 * k)))) else n
/-- The next number of either sign, of so many bits: it, what is left, the error. -/
def sF (bits : Int) (l : List Int) (y : Int) : Int × List Int × Int :=
  let R := numF bits l y
  if R.2.2.2.1 = false then (0, R.2.2.2.2.1, R.2.2.2.2.2) else
  if 64 < 7 * (R.2.1 : Int) ∧ (l.getD 9 0 != 0) = true ∧ (l.getD 9 0 != 127) = true then (0, [], 11) else
  if (wrap64 (sN R.1 R.2.1 R.2.2.1) / 2 ^ (bits.toNat - 1) != 0) = true ∧ (wrap64 (sN R.1 R.2.1 R.2.2.1) / 2 ^ (bits.toNat - 1) != -1) = true then (0, [], 11) else (wrap64 (sN R.1 R.2.1 R.2.2.1), R.2.2.2.2.1, R.2.2.2.2.2)
theorem SF.long {g : Nat} {w w' : World} {bits : Int} {l : List Int} {y n : Int} {k : Nat} {s : Bool} {l' : List Int} {y' : Int} (hR : numF bits l y = (n, k, s, true, l', y'))
    (hc : 64 < 7 * (k : Int) ∧ (l.getD 9 0 != 0) = true ∧ (l.getD 9 0 != 127) = true) (hq : Rdr 55 w' g [] 11) (ht : Turn w w' g) : UQ .i64 g w (sF bits l y) (.returned (.int .i64 0)) w' := by
  have e : sF bits l y = (0, [], 11) := by unfold sF; rw [hR]; simp only; rw [if_neg (by simp), if_pos hc]
  rw [e]; exact ⟨rfl, hq, ht⟩
theorem SF.fail {g : Nat} {w w' : World} {bits : Int} {l : List Int} {y n N : Int} {k : Nat} {s : Bool} {l' : List Int} {y' : Int} (hR : numF bits l y = (n, k, s, true, l', y')) (hN : sN n k s = N)
    (hc : (wrap64 N / 2 ^ (bits.toNat - 1) != 0) = true ∧ (wrap64 N / 2 ^ (bits.toNat - 1) != -1) = true) (hq : Rdr 55 w' g [] 11) (ht : Turn w w' g) : UQ .i64 g w (sF bits l y) (.returned (.int .i64 0)) w' := by
  have e : sF bits l y = (0, [], 11) := by
    unfold sF; rw [hR]; simp only; rw [if_neg (by simp), hN]
    split <;> first | rfl | (rw [if_pos hc])
  rw [e]; exact ⟨rfl, hq, ht⟩
theorem SF.fine {g : Nat} {w w' : World} {bits : Int} {l : List Int} {y n N : Int} {k : Nat} {s : Bool} {l' : List Int} {y' : Int} (hR : numF bits l y = (n, k, s, true, l', y')) (hN : sN n k s = N)
    (h9 : ¬ (64 < 7 * (k : Int) ∧ (l.getD 9 0 != 0) = true ∧ (l.getD 9 0 != 127) = true))
    (hc : ¬ ((wrap64 N / 2 ^ (bits.toNat - 1) != 0) = true ∧ (wrap64 N / 2 ^ (bits.toNat - 1) != -1) = true)) (hq : Rdr 55 w' g l' y') (ht : Turn w w' g) : UQ .i64 g w (sF bits l y) (.returned (.int .i64 (wrap64 N))) w' := by
  have e : sF bits l y = (wrap64 N, l', y') := by
    unfold sF; rw [hR]; simp only; rw [if_neg (by simp), if_neg h9, hN, if_neg hc]
  rw [e]; exact ⟨rfl, hq, ht⟩

set_option maxRecDepth 100000 in
theorem s_none (g : Nat) (bits : Int) (l : List Int) (y : Int) (w : World) (H : Rdr 55 w g l y) (hy : y = 0 ∨ l = []) (n : Int) (k : Nat) (s : Bool) (l' : List Int) (y' : Int) (hR : numF bits l y = (n, k, s, false, l', y')) :
    Calls Try.prog 23 #[.pointer (some ⟨g, 0, none⟩), .int .i64 bits] w (UQ .i64 g w (sF bits l y)) := by
  obtain ⟨A, c, hb, hc, hr, hx⟩ := H.out
  have h0 := cell0 hb
  have hN := number_c g bits l y w H hy
  rw [hR] at hN
  have HN := Lib.hid hN
  have e : sF bits l y = (0, l', y') := by unfold sF; rw [hR]; simp
  rw [e]
  clear hR hb hr hN hx hc hy e
  go_enter Try.func23, Try.ntmps23
  go_wp2_with (first | (go_at_call 33; refine (bytes_c g _ _ h0).mono ?_; rintro e w1 ⟨rfl, rfl⟩) | (go_at_call 34; refine HN.out.mono ?_; intro e w1 hnq; obtain ⟨he, hq, ht⟩ := hnq.out; subst he; clear hnq; have HQ := Lib.hid hq; have HT := Lib.hid ht; clear hq ht) | (go_at_call 31; refine (fail_11 g _ _ HQ.out).mono ?_; rintro e w3 ⟨rfl, hq, ht⟩; have HQ2 := Lib.hid hq; have HT2 := Lib.hid ht; clear hq ht))
  go_ret
  exact ⟨rfl, HQ.out, HT.out⟩

set_option maxRecDepth 100000 in
theorem s_small_true (g : Nat) (bits : Int) (l : List Int) (y : Int) (w : World) (H : Rdr 55 w g l y) (n : Int) (k : Nat) (l' : List Int) (hR : numF bits l y = (n, k, true, true, l', 0)) (A : Option Addr) (c : Nat) (h0 : w.cell? ⟨g, 0, none⟩ = some (.slice A l.length c))
    (hN : Calls Try.prog 34 #[.pointer (some ⟨g, 0, none⟩), .int .i64 bits] w (NumQ g w (n, k, true, true, l', 0))) (h1 : 1 ≤ bits) (h2 : bits ≤ 64) (c1 : 7 * (k : Int) ≤ 64) (c2 : 7 * (k : Int) < 64) :
    Calls Try.prog 23 #[.pointer (some ⟨g, 0, none⟩), .int .i64 bits] w (UQ .i64 g w (sF bits l y)) := by
  have HN := Lib.hid hN
  have HR := Lib.hid hR
  clear hN hR
  have HSN : Hid (sN n k true = (Go.bits .or .u64 n (IntKind.u64.wrap (18446744073709551615 * 2 ^ (7 * k))))) := Lib.hid (by unfold sN; rw [if_pos ⟨rfl, by omega⟩])
  by_cases z0 : (wrap64 (Go.bits .or .u64 n (IntKind.u64.wrap (18446744073709551615 * 2 ^ (7 * k)))) / 2 ^ (bits.toNat - 1) != 0) = true
  · by_cases z1 : (wrap64 (Go.bits .or .u64 n (IntKind.u64.wrap (18446744073709551615 * 2 ^ (7 * k)))) / 2 ^ (bits.toNat - 1) != -1) = true
    · go_enter Try.func23, Try.ntmps23
      go_wp2_with (first | (go_at_call 33; refine (bytes_c g _ _ h0).mono ?_; rintro e w1 ⟨rfl, rfl⟩) | (go_at_call 34; refine HN.out.mono ?_; intro e w1 hnq; obtain ⟨he, hq, ht⟩ := hnq.out; subst he; clear hnq; have HQ := Lib.hid hq; have HT := Lib.hid ht; clear hq ht) | (go_at_call 31; refine (fail_11 g _ _ HQ.out).mono ?_; rintro e w3 ⟨rfl, hq, ht⟩; have HQ2 := Lib.hid hq; have HT2 := Lib.hid ht; clear hq ht))
      go_ret
      exact SF.fail HR.out HSN.out ⟨z0, z1⟩ HQ2.out (HT.out.trans HT2.out)
    · have z1' := Bool.eq_false_iff.2 z1
      clear z1
      go_enter Try.func23, Try.ntmps23
      go_wp2_with (first | (go_at_call 33; refine (bytes_c g _ _ h0).mono ?_; rintro e w1 ⟨rfl, rfl⟩) | (go_at_call 34; refine HN.out.mono ?_; intro e w1 hnq; obtain ⟨he, hq, ht⟩ := hnq.out; subst he; clear hnq; have HQ := Lib.hid hq; have HT := Lib.hid ht; clear hq ht) | (go_at_call 31; refine (fail_11 g _ _ HQ.out).mono ?_; rintro e w3 ⟨rfl, hq, ht⟩; have HQ2 := Lib.hid hq; have HT2 := Lib.hid ht; clear hq ht))
      go_ret
      exact SF.fine HR.out HSN.out (by rintro ⟨h, _⟩; omega) (by rw [z1']; simp) HQ.out HT.out
  · have z0' := Bool.eq_false_iff.2 z0
    clear z0
    go_enter Try.func23, Try.ntmps23
    go_wp2_with (first | (go_at_call 33; refine (bytes_c g _ _ h0).mono ?_; rintro e w1 ⟨rfl, rfl⟩) | (go_at_call 34; refine HN.out.mono ?_; intro e w1 hnq; obtain ⟨he, hq, ht⟩ := hnq.out; subst he; clear hnq; have HQ := Lib.hid hq; have HT := Lib.hid ht; clear hq ht) | (go_at_call 31; refine (fail_11 g _ _ HQ.out).mono ?_; rintro e w3 ⟨rfl, hq, ht⟩; have HQ2 := Lib.hid hq; have HT2 := Lib.hid ht; clear hq ht))
    go_ret
    exact SF.fine HR.out HSN.out (by rintro ⟨h, _⟩; omega) (by rw [z0']; simp) HQ.out HT.out

set_option maxRecDepth 100000 in
theorem s_small_false (g : Nat) (bits : Int) (l : List Int) (y : Int) (w : World) (H : Rdr 55 w g l y) (n : Int) (k : Nat) (l' : List Int) (hR : numF bits l y = (n, k, false, true, l', 0)) (A : Option Addr) (c : Nat) (h0 : w.cell? ⟨g, 0, none⟩ = some (.slice A l.length c))
    (hN : Calls Try.prog 34 #[.pointer (some ⟨g, 0, none⟩), .int .i64 bits] w (NumQ g w (n, k, false, true, l', 0))) (h1 : 1 ≤ bits) (h2 : bits ≤ 64) (c1 : 7 * (k : Int) ≤ 64) (c2 : 7 * (k : Int) < 64) :
    Calls Try.prog 23 #[.pointer (some ⟨g, 0, none⟩), .int .i64 bits] w (UQ .i64 g w (sF bits l y)) := by
  have HN := Lib.hid hN
  have HR := Lib.hid hR
  clear hN hR
  have HSN : Hid (sN n k false = n) := Lib.hid (by unfold sN; rw [if_neg (by simp)])
  by_cases z0 : (wrap64 n / 2 ^ (bits.toNat - 1) != 0) = true
  · by_cases z1 : (wrap64 n / 2 ^ (bits.toNat - 1) != -1) = true
    · go_enter Try.func23, Try.ntmps23
      go_wp2_with (first | (go_at_call 33; refine (bytes_c g _ _ h0).mono ?_; rintro e w1 ⟨rfl, rfl⟩) | (go_at_call 34; refine HN.out.mono ?_; intro e w1 hnq; obtain ⟨he, hq, ht⟩ := hnq.out; subst he; clear hnq; have HQ := Lib.hid hq; have HT := Lib.hid ht; clear hq ht) | (go_at_call 31; refine (fail_11 g _ _ HQ.out).mono ?_; rintro e w3 ⟨rfl, hq, ht⟩; have HQ2 := Lib.hid hq; have HT2 := Lib.hid ht; clear hq ht))
      go_ret
      exact SF.fail HR.out HSN.out ⟨z0, z1⟩ HQ2.out (HT.out.trans HT2.out)
    · have z1' := Bool.eq_false_iff.2 z1
      clear z1
      go_enter Try.func23, Try.ntmps23
      go_wp2_with (first | (go_at_call 33; refine (bytes_c g _ _ h0).mono ?_; rintro e w1 ⟨rfl, rfl⟩) | (go_at_call 34; refine HN.out.mono ?_; intro e w1 hnq; obtain ⟨he, hq, ht⟩ := hnq.out; subst he; clear hnq; have HQ := Lib.hid hq; have HT := Lib.hid ht; clear hq ht) | (go_at_call 31; refine (fail_11 g _ _ HQ.out).mono ?_; rintro e w3 ⟨rfl, hq, ht⟩; have HQ2 := Lib.hid hq; have HT2 := Lib.hid ht; clear hq ht))
      go_ret
      exact SF.fine HR.out HSN.out (by rintro ⟨h, _⟩; omega) (by rw [z1']; simp) HQ.out HT.out
  · have z0' := Bool.eq_false_iff.2 z0
    clear z0
    go_enter Try.func23, Try.ntmps23
    go_wp2_with (first | (go_at_call 33; refine (bytes_c g _ _ h0).mono ?_; rintro e w1 ⟨rfl, rfl⟩) | (go_at_call 34; refine HN.out.mono ?_; intro e w1 hnq; obtain ⟨he, hq, ht⟩ := hnq.out; subst he; clear hnq; have HQ := Lib.hid hq; have HT := Lib.hid ht; clear hq ht) | (go_at_call 31; refine (fail_11 g _ _ HQ.out).mono ?_; rintro e w3 ⟨rfl, hq, ht⟩; have HQ2 := Lib.hid hq; have HT2 := Lib.hid ht; clear hq ht))
    go_ret
    exact SF.fine HR.out HSN.out (by rintro ⟨h, _⟩; omega) (by rw [z0']; simp) HQ.out HT.out

set_option maxRecDepth 100000 in
theorem s_long (g : Nat) (bits : Int) (l : List Int) (y : Int) (w : World) (H : Rdr 55 w g l y) (n : Int) (k : Nat) (s : Bool) (l' : List Int) (hR : numF bits l y = (n, k, s, true, l', 0)) (A : Option Addr) (c : Nat) (h0 : w.cell? ⟨g, 0, none⟩ = some (.slice A l.length c))
    (hN : Calls Try.prog 34 #[.pointer (some ⟨g, 0, none⟩), .int .i64 bits] w (NumQ g w (n, k, s, true, l', 0))) (h1 : 1 ≤ bits) (h2 : bits ≤ 64) (c1 : 64 < 7 * (k : Int)) (hk10 : k = 10) (B : Int) (hB : l.getD 9 0 = B) (ad : Addr) (hA : A = some ad) (hL : (9 : Int) < (l.length : Int)) (h9 : ∀ w1, Turn w w1 g → w1.cell? ⟨ad.block, ad.off + 9, none⟩ = some (.int .u8 B)) (b0 : (B != 0) = true) (b1 : (B != 127) = true) :
    Calls Try.prog 23 #[.pointer (some ⟨g, 0, none⟩), .int .i64 bits] w (UQ .i64 g w (sF bits l y)) := by
  have HN := Lib.hid hN
  have HR := Lib.hid hR
  clear hN hR
  have HB := Lib.hid hB
  have H9 := Lib.hid h9
  clear hB h9
  subst hA
  go_enter Try.func23, Try.ntmps23
  go_wp2_with (first | (go_at_call 33; refine (bytes_c g _ _ h0).mono ?_; rintro e w1 ⟨rfl, rfl⟩) | (go_at_call 34; refine HN.out.mono ?_; intro e w1 hnq; obtain ⟨he, hq, ht⟩ := hnq.out; subst he; clear hnq; have h9 := H9.out _ ht; have HQ := Lib.hid hq; have HT := Lib.hid ht; clear hq ht) | (go_at_call 31; refine (fail_11 g _ _ HQ.out).mono ?_; rintro e w3 ⟨rfl, hq, ht⟩; have HQ2 := Lib.hid hq; have HT2 := Lib.hid ht; clear hq ht))
  go_ret
  exact SF.long HR.out ⟨c1, by rw [HB.out]; exact b0, by rw [HB.out]; exact b1⟩ HQ2.out (HT.out.trans HT2.out)

set_option maxRecDepth 100000 in
theorem s_big_true_a (g : Nat) (bits : Int) (l : List Int) (y : Int) (w : World) (H : Rdr 55 w g l y) (n : Int) (k : Nat) (l' : List Int) (hR : numF bits l y = (n, k, true, true, l', 0)) (A : Option Addr) (c : Nat) (h0 : w.cell? ⟨g, 0, none⟩ = some (.slice A l.length c))
    (hN : Calls Try.prog 34 #[.pointer (some ⟨g, 0, none⟩), .int .i64 bits] w (NumQ g w (n, k, true, true, l', 0))) (h1 : 1 ≤ bits) (h2 : bits ≤ 64) (c1 : 64 < 7 * (k : Int)) (hk10 : k = 10) (B : Int) (hB : l.getD 9 0 = B) (ad : Addr) (hA : A = some ad) (hL : (9 : Int) < (l.length : Int)) (h9 : ∀ w1, Turn w w1 g → w1.cell? ⟨ad.block, ad.off + 9, none⟩ = some (.int .u8 B)) (b0 : (B != 0) = false) :
    Calls Try.prog 23 #[.pointer (some ⟨g, 0, none⟩), .int .i64 bits] w (UQ .i64 g w (sF bits l y)) := by
  have HN := Lib.hid hN
  have HR := Lib.hid hR
  clear hN hR
  have HB := Lib.hid hB
  have H9 := Lib.hid h9
  clear hB h9
  subst hA
  have HSN : Hid (sN n k true = n) := Lib.hid (by unfold sN; rw [if_neg (by omega)])
  by_cases z0 : (wrap64 n / 2 ^ (bits.toNat - 1) != 0) = true
  · by_cases z1 : (wrap64 n / 2 ^ (bits.toNat - 1) != -1) = true
    · go_enter Try.func23, Try.ntmps23
      go_wp2_with (first | (go_at_call 33; refine (bytes_c g _ _ h0).mono ?_; rintro e w1 ⟨rfl, rfl⟩) | (go_at_call 34; refine HN.out.mono ?_; intro e w1 hnq; obtain ⟨he, hq, ht⟩ := hnq.out; subst he; clear hnq; have h9 := H9.out _ ht; have HQ := Lib.hid hq; have HT := Lib.hid ht; clear hq ht) | (go_at_call 31; refine (fail_11 g _ _ HQ.out).mono ?_; rintro e w3 ⟨rfl, hq, ht⟩; have HQ2 := Lib.hid hq; have HT2 := Lib.hid ht; clear hq ht))
      go_ret
      exact SF.fail HR.out HSN.out ⟨z0, z1⟩ HQ2.out (HT.out.trans HT2.out)
    · have z1' := Bool.eq_false_iff.2 z1
      clear z1
      go_enter Try.func23, Try.ntmps23
      go_wp2_with (first | (go_at_call 33; refine (bytes_c g _ _ h0).mono ?_; rintro e w1 ⟨rfl, rfl⟩) | (go_at_call 34; refine HN.out.mono ?_; intro e w1 hnq; obtain ⟨he, hq, ht⟩ := hnq.out; subst he; clear hnq; have h9 := H9.out _ ht; have HQ := Lib.hid hq; have HT := Lib.hid ht; clear hq ht) | (go_at_call 31; refine (fail_11 g _ _ HQ.out).mono ?_; rintro e w3 ⟨rfl, hq, ht⟩; have HQ2 := Lib.hid hq; have HT2 := Lib.hid ht; clear hq ht))
      go_ret
      exact SF.fine HR.out HSN.out (by rw [HB.out, b0]; simp) (by rw [z1']; simp) HQ.out HT.out
  · have z0' := Bool.eq_false_iff.2 z0
    clear z0
    go_enter Try.func23, Try.ntmps23
    go_wp2_with (first | (go_at_call 33; refine (bytes_c g _ _ h0).mono ?_; rintro e w1 ⟨rfl, rfl⟩) | (go_at_call 34; refine HN.out.mono ?_; intro e w1 hnq; obtain ⟨he, hq, ht⟩ := hnq.out; subst he; clear hnq; have h9 := H9.out _ ht; have HQ := Lib.hid hq; have HT := Lib.hid ht; clear hq ht) | (go_at_call 31; refine (fail_11 g _ _ HQ.out).mono ?_; rintro e w3 ⟨rfl, hq, ht⟩; have HQ2 := Lib.hid hq; have HT2 := Lib.hid ht; clear hq ht))
    go_ret
    exact SF.fine HR.out HSN.out (by rw [HB.out, b0]; simp) (by rw [z0']; simp) HQ.out HT.out

set_option maxRecDepth 100000 in
theorem s_big_true_b (g : Nat) (bits : Int) (l : List Int) (y : Int) (w : World) (H : Rdr 55 w g l y) (n : Int) (k : Nat) (l' : List Int) (hR : numF bits l y = (n, k, true, true, l', 0)) (A : Option Addr) (c : Nat) (h0 : w.cell? ⟨g, 0, none⟩ = some (.slice A l.length c))
    (hN : Calls Try.prog 34 #[.pointer (some ⟨g, 0, none⟩), .int .i64 bits] w (NumQ g w (n, k, true, true, l', 0))) (h1 : 1 ≤ bits) (h2 : bits ≤ 64) (c1 : 64 < 7 * (k : Int)) (hk10 : k = 10) (B : Int) (hB : l.getD 9 0 = B) (ad : Addr) (hA : A = some ad) (hL : (9 : Int) < (l.length : Int)) (h9 : ∀ w1, Turn w w1 g → w1.cell? ⟨ad.block, ad.off + 9, none⟩ = some (.int .u8 B)) (b0 : (B != 0) = true) (b1 : (B != 127) = false) :
    Calls Try.prog 23 #[.pointer (some ⟨g, 0, none⟩), .int .i64 bits] w (UQ .i64 g w (sF bits l y)) := by
  have HN := Lib.hid hN
  have HR := Lib.hid hR
  clear hN hR
  have HB := Lib.hid hB
  have H9 := Lib.hid h9
  clear hB h9
  subst hA
  have HSN : Hid (sN n k true = n) := Lib.hid (by unfold sN; rw [if_neg (by omega)])
  by_cases z0 : (wrap64 n / 2 ^ (bits.toNat - 1) != 0) = true
  · by_cases z1 : (wrap64 n / 2 ^ (bits.toNat - 1) != -1) = true
    · go_enter Try.func23, Try.ntmps23
      go_wp2_with (first | (go_at_call 33; refine (bytes_c g _ _ h0).mono ?_; rintro e w1 ⟨rfl, rfl⟩) | (go_at_call 34; refine HN.out.mono ?_; intro e w1 hnq; obtain ⟨he, hq, ht⟩ := hnq.out; subst he; clear hnq; have h9 := H9.out _ ht; have HQ := Lib.hid hq; have HT := Lib.hid ht; clear hq ht) | (go_at_call 31; refine (fail_11 g _ _ HQ.out).mono ?_; rintro e w3 ⟨rfl, hq, ht⟩; have HQ2 := Lib.hid hq; have HT2 := Lib.hid ht; clear hq ht))
      go_ret
      exact SF.fail HR.out HSN.out ⟨z0, z1⟩ HQ2.out (HT.out.trans HT2.out)
    · have z1' := Bool.eq_false_iff.2 z1
      clear z1
      go_enter Try.func23, Try.ntmps23
      go_wp2_with (first | (go_at_call 33; refine (bytes_c g _ _ h0).mono ?_; rintro e w1 ⟨rfl, rfl⟩) | (go_at_call 34; refine HN.out.mono ?_; intro e w1 hnq; obtain ⟨he, hq, ht⟩ := hnq.out; subst he; clear hnq; have h9 := H9.out _ ht; have HQ := Lib.hid hq; have HT := Lib.hid ht; clear hq ht) | (go_at_call 31; refine (fail_11 g _ _ HQ.out).mono ?_; rintro e w3 ⟨rfl, hq, ht⟩; have HQ2 := Lib.hid hq; have HT2 := Lib.hid ht; clear hq ht))
      go_ret
      exact SF.fine HR.out HSN.out (by rw [HB.out, b1]; simp) (by rw [z1']; simp) HQ.out HT.out
  · have z0' := Bool.eq_false_iff.2 z0
    clear z0
    go_enter Try.func23, Try.ntmps23
    go_wp2_with (first | (go_at_call 33; refine (bytes_c g _ _ h0).mono ?_; rintro e w1 ⟨rfl, rfl⟩) | (go_at_call 34; refine HN.out.mono ?_; intro e w1 hnq; obtain ⟨he, hq, ht⟩ := hnq.out; subst he; clear hnq; have h9 := H9.out _ ht; have HQ := Lib.hid hq; have HT := Lib.hid ht; clear hq ht) | (go_at_call 31; refine (fail_11 g _ _ HQ.out).mono ?_; rintro e w3 ⟨rfl, hq, ht⟩; have HQ2 := Lib.hid hq; have HT2 := Lib.hid ht; clear hq ht))
    go_ret
    exact SF.fine HR.out HSN.out (by rw [HB.out, b1]; simp) (by rw [z0']; simp) HQ.out HT.out

set_option maxRecDepth 100000 in
theorem s_big_false_a (g : Nat) (bits : Int) (l : List Int) (y : Int) (w : World) (H : Rdr 55 w g l y) (n : Int) (k : Nat) (l' : List Int) (hR : numF bits l y = (n, k, false, true, l', 0)) (A : Option Addr) (c : Nat) (h0 : w.cell? ⟨g, 0, none⟩ = some (.slice A l.length c))
    (hN : Calls Try.prog 34 #[.pointer (some ⟨g, 0, none⟩), .int .i64 bits] w (NumQ g w (n, k, false, true, l', 0))) (h1 : 1 ≤ bits) (h2 : bits ≤ 64) (c1 : 64 < 7 * (k : Int)) (hk10 : k = 10) (B : Int) (hB : l.getD 9 0 = B) (ad : Addr) (hA : A = some ad) (hL : (9 : Int) < (l.length : Int)) (h9 : ∀ w1, Turn w w1 g → w1.cell? ⟨ad.block, ad.off + 9, none⟩ = some (.int .u8 B)) (b0 : (B != 0) = false) :
    Calls Try.prog 23 #[.pointer (some ⟨g, 0, none⟩), .int .i64 bits] w (UQ .i64 g w (sF bits l y)) := by
  have HN := Lib.hid hN
  have HR := Lib.hid hR
  clear hN hR
  have HB := Lib.hid hB
  have H9 := Lib.hid h9
  clear hB h9
  subst hA
  have HSN : Hid (sN n k false = n) := Lib.hid (by unfold sN; rw [if_neg (by omega)])
  by_cases z0 : (wrap64 n / 2 ^ (bits.toNat - 1) != 0) = true
  · by_cases z1 : (wrap64 n / 2 ^ (bits.toNat - 1) != -1) = true
    · go_enter Try.func23, Try.ntmps23
      go_wp2_with (first | (go_at_call 33; refine (bytes_c g _ _ h0).mono ?_; rintro e w1 ⟨rfl, rfl⟩) | (go_at_call 34; refine HN.out.mono ?_; intro e w1 hnq; obtain ⟨he, hq, ht⟩ := hnq.out; subst he; clear hnq; have h9 := H9.out _ ht; have HQ := Lib.hid hq; have HT := Lib.hid ht; clear hq ht) | (go_at_call 31; refine (fail_11 g _ _ HQ.out).mono ?_; rintro e w3 ⟨rfl, hq, ht⟩; have HQ2 := Lib.hid hq; have HT2 := Lib.hid ht; clear hq ht))
      go_ret
      exact SF.fail HR.out HSN.out ⟨z0, z1⟩ HQ2.out (HT.out.trans HT2.out)
    · have z1' := Bool.eq_false_iff.2 z1
      clear z1
      go_enter Try.func23, Try.ntmps23
      go_wp2_with (first | (go_at_call 33; refine (bytes_c g _ _ h0).mono ?_; rintro e w1 ⟨rfl, rfl⟩) | (go_at_call 34; refine HN.out.mono ?_; intro e w1 hnq; obtain ⟨he, hq, ht⟩ := hnq.out; subst he; clear hnq; have h9 := H9.out _ ht; have HQ := Lib.hid hq; have HT := Lib.hid ht; clear hq ht) | (go_at_call 31; refine (fail_11 g _ _ HQ.out).mono ?_; rintro e w3 ⟨rfl, hq, ht⟩; have HQ2 := Lib.hid hq; have HT2 := Lib.hid ht; clear hq ht))
      go_ret
      exact SF.fine HR.out HSN.out (by rw [HB.out, b0]; simp) (by rw [z1']; simp) HQ.out HT.out
  · have z0' := Bool.eq_false_iff.2 z0
    clear z0
    go_enter Try.func23, Try.ntmps23
    go_wp2_with (first | (go_at_call 33; refine (bytes_c g _ _ h0).mono ?_; rintro e w1 ⟨rfl, rfl⟩) | (go_at_call 34; refine HN.out.mono ?_; intro e w1 hnq; obtain ⟨he, hq, ht⟩ := hnq.out; subst he; clear hnq; have h9 := H9.out _ ht; have HQ := Lib.hid hq; have HT := Lib.hid ht; clear hq ht) | (go_at_call 31; refine (fail_11 g _ _ HQ.out).mono ?_; rintro e w3 ⟨rfl, hq, ht⟩; have HQ2 := Lib.hid hq; have HT2 := Lib.hid ht; clear hq ht))
    go_ret
    exact SF.fine HR.out HSN.out (by rw [HB.out, b0]; simp) (by rw [z0']; simp) HQ.out HT.out

set_option maxRecDepth 100000 in
theorem s_big_false_b (g : Nat) (bits : Int) (l : List Int) (y : Int) (w : World) (H : Rdr 55 w g l y) (n : Int) (k : Nat) (l' : List Int) (hR : numF bits l y = (n, k, false, true, l', 0)) (A : Option Addr) (c : Nat) (h0 : w.cell? ⟨g, 0, none⟩ = some (.slice A l.length c))
    (hN : Calls Try.prog 34 #[.pointer (some ⟨g, 0, none⟩), .int .i64 bits] w (NumQ g w (n, k, false, true, l', 0))) (h1 : 1 ≤ bits) (h2 : bits ≤ 64) (c1 : 64 < 7 * (k : Int)) (hk10 : k = 10) (B : Int) (hB : l.getD 9 0 = B) (ad : Addr) (hA : A = some ad) (hL : (9 : Int) < (l.length : Int)) (h9 : ∀ w1, Turn w w1 g → w1.cell? ⟨ad.block, ad.off + 9, none⟩ = some (.int .u8 B)) (b0 : (B != 0) = true) (b1 : (B != 127) = false) :
    Calls Try.prog 23 #[.pointer (some ⟨g, 0, none⟩), .int .i64 bits] w (UQ .i64 g w (sF bits l y)) := by
  have HN := Lib.hid hN
  have HR := Lib.hid hR
  clear hN hR
  have HB := Lib.hid hB
  have H9 := Lib.hid h9
  clear hB h9
  subst hA
  have HSN : Hid (sN n k false = n) := Lib.hid (by unfold sN; rw [if_neg (by omega)])
  by_cases z0 : (wrap64 n / 2 ^ (bits.toNat - 1) != 0) = true
  · by_cases z1 : (wrap64 n / 2 ^ (bits.toNat - 1) != -1) = true
    · go_enter Try.func23, Try.ntmps23
      go_wp2_with (first | (go_at_call 33; refine (bytes_c g _ _ h0).mono ?_; rintro e w1 ⟨rfl, rfl⟩) | (go_at_call 34; refine HN.out.mono ?_; intro e w1 hnq; obtain ⟨he, hq, ht⟩ := hnq.out; subst he; clear hnq; have h9 := H9.out _ ht; have HQ := Lib.hid hq; have HT := Lib.hid ht; clear hq ht) | (go_at_call 31; refine (fail_11 g _ _ HQ.out).mono ?_; rintro e w3 ⟨rfl, hq, ht⟩; have HQ2 := Lib.hid hq; have HT2 := Lib.hid ht; clear hq ht))
      go_ret
      exact SF.fail HR.out HSN.out ⟨z0, z1⟩ HQ2.out (HT.out.trans HT2.out)
    · have z1' := Bool.eq_false_iff.2 z1
      clear z1
      go_enter Try.func23, Try.ntmps23
      go_wp2_with (first | (go_at_call 33; refine (bytes_c g _ _ h0).mono ?_; rintro e w1 ⟨rfl, rfl⟩) | (go_at_call 34; refine HN.out.mono ?_; intro e w1 hnq; obtain ⟨he, hq, ht⟩ := hnq.out; subst he; clear hnq; have h9 := H9.out _ ht; have HQ := Lib.hid hq; have HT := Lib.hid ht; clear hq ht) | (go_at_call 31; refine (fail_11 g _ _ HQ.out).mono ?_; rintro e w3 ⟨rfl, hq, ht⟩; have HQ2 := Lib.hid hq; have HT2 := Lib.hid ht; clear hq ht))
      go_ret
      exact SF.fine HR.out HSN.out (by rw [HB.out, b1]; simp) (by rw [z1']; simp) HQ.out HT.out
  · have z0' := Bool.eq_false_iff.2 z0
    clear z0
    go_enter Try.func23, Try.ntmps23
    go_wp2_with (first | (go_at_call 33; refine (bytes_c g _ _ h0).mono ?_; rintro e w1 ⟨rfl, rfl⟩) | (go_at_call 34; refine HN.out.mono ?_; intro e w1 hnq; obtain ⟨he, hq, ht⟩ := hnq.out; subst he; clear hnq; have h9 := H9.out _ ht; have HQ := Lib.hid hq; have HT := Lib.hid ht; clear hq ht) | (go_at_call 31; refine (fail_11 g _ _ HQ.out).mono ?_; rintro e w3 ⟨rfl, hq, ht⟩; have HQ2 := Lib.hid hq; have HT2 := Lib.hid ht; clear hq ht))
    go_ret
    exact SF.fine HR.out HSN.out (by rw [HB.out, b1]; simp) (by rw [z0']; simp) HQ.out HT.out

theorem s_c (g : Nat) (bits : Int) (l : List Int) (y : Int) (w : World) (H : Rdr 55 w g l y) (hy : y = 0 ∨ l = []) :
    Calls Try.prog 23 #[.pointer (some ⟨g, 0, none⟩), .int .i64 bits] w (UQ .i64 g w (sF bits l y)) := by
  rcases hR : numF bits l y with ⟨n, k, s, ok, l', y'⟩
  cases ok
  · exact s_none g bits l y w H hy n k s l' y' hR
  · obtain rfl := (numF_ok hR).1
    obtain ⟨A, c, hb, hc, hr, hx⟩ := H.out
    obtain ⟨_, hk, hkl, h1, h2⟩ := numF_ok hR
    have hN := number_c g bits l y w H hy
    rw [hR] at hN
    by_cases c1 : 64 < 7 * (k : Int)
    · obtain ⟨ad, hA, _⟩ := tenth hr (by omega)
      have h9 : ∀ w1, Turn w w1 g → w1.cell? ⟨ad.block, ad.off + 9, none⟩ = some (.int .u8 (l.getD 9 0)) := fun w1 ht => by
        obtain ⟨ad', e, h9'⟩ := tenth (reads_turn hb hr ht) (by omega)
        rw [hA] at e
        injection e with e; subst e
        exact h9'
      by_cases b0 : (l.getD 9 0 != 0) = true
      · by_cases b1 : (l.getD 9 0 != 127) = true
        · exact s_long g bits l y w H n k s l' hR A c (cell0 hb) hN h1 h2 c1 (by omega) _ rfl ad hA (by omega) h9 b0 b1
        · cases s
          · exact s_big_false_b g bits l y w H n k l' hR A c (cell0 hb) hN h1 h2 c1 (by omega) _ rfl ad hA (by omega) h9 b0 (Bool.eq_false_iff.2 b1)
          · exact s_big_true_b g bits l y w H n k l' hR A c (cell0 hb) hN h1 h2 c1 (by omega) _ rfl ad hA (by omega) h9 b0 (Bool.eq_false_iff.2 b1)
      · cases s
        · exact s_big_false_a g bits l y w H n k l' hR A c (cell0 hb) hN h1 h2 c1 (by omega) _ rfl ad hA (by omega) h9 (Bool.eq_false_iff.2 b0)
        · exact s_big_true_a g bits l y w H n k l' hR A c (cell0 hb) hN h1 h2 c1 (by omega) _ rfl ad hA (by omega) h9 (Bool.eq_false_iff.2 b0)
    · cases s
      · exact s_small_false g bits l y w H n k l' hR A c (cell0 hb) hN h1 h2 (by omega) (by omega)
      · exact s_small_true g bits l y w H n k l' hR A c (cell0 hb) hN h1 h2 (by omega) (by omega)
end Go.Proofs.Ytnpiicnhdpldaaa.Lb
