/-
  The walk of the reader's number (leb). No condition but that the reader's block is one.
-/
import Derived.Test.YtnpiicnhdpldaaaLbA
import Derived.ScopeJumps
namespace Go.Proofs.Ytnpiicnhdpldaaa.Lb
set_option linter.unusedVariables false
set_option linter.unusedSimpArgs false
open Go.RowKit Go.Proofs.YtnpiicnhdpldaaaW.PrintWords

/-- One byte more of a number. -/
def numS (n : Int) (k : Nat) (c : Int) : Int := Go.bits .or .u64 n (IntKind.u64.wrap (IntKind.u64.wrap (Go.bits .and .u8 c 127) * 2 ^ (7 * k)))
/-- A number's rest: so many bytes at most, what there is of it, how many bytes it has had, the bytes. -/
def numG : Nat → Int → Nat → List Int → Int × Nat × Bool × Bool × List Int × Int
  | 0, n, k, _ => (n, k, false, false, [], 11)
  | _ + 1, n, k, [] => (n, k, false, false, [], 10)
  | r + 1, n, k, c :: t => if c < 128 then (numS n k c, k + 1, Go.bits .and .u8 c 64 != 0, true, t, 0) else numG r (numS n k c) (k + 1) t
theorem numG_nil {m k : Nat} {n : Int} (h : k < m) : numG (m - k) n k [] = (n, k, false, false, [], 10) := by
  obtain ⟨r, hr⟩ : ∃ r, m - k = r + 1 := ⟨m - k - 1, by omega⟩
  rw [hr]; rfl
theorem numG_end {m k : Nat} {n c : Int} {t : List Int} (h : k < m) (hc : c < 128) : numG (m - k) n k (c :: t) = (numS n k c, k + 1, Go.bits .and .u8 c 64 != 0, true, t, 0) := by
  obtain ⟨r, hr⟩ : ∃ r, m - k = r + 1 := ⟨m - k - 1, by omega⟩
  rw [hr]; unfold numG; rw [if_pos hc]
theorem numG_go {m k : Nat} {n c : Int} {t : List Int} (h : k < m) (hc : 128 ≤ c) : numG (m - k) n k (c :: t) = numG (m - (k + 1)) (numS n k c) (k + 1) t := by
  obtain ⟨r, hr⟩ : ∃ r, m - k = r + 1 := ⟨m - k - 1, by omega⟩
  rw [hr, show m - (k + 1) = r by omega]
  conv => lhs; unfold numG
  rw [if_neg (by omega)]
theorem numG_long {m k : Nat} {n c : Int} {t : List Int} (h : k + 1 = m) (hc : 128 ≤ c) : numG (m - k) n k (c :: t) = (numS n k c, k + 1, false, false, [], 11) := by
  rw [numG_go (by omega) hc, show m - (k + 1) = 0 by omega]; rfl

def NumJ (g : Nat) (bits : Int) (w : World) (m : Nat) (R : Int × Nat × Bool × Bool × List Int × Int) (a' : Act) (w' : World) : Prop :=
  ∃ (n : Int) (k : Nat) (l : List Int) (sh at_ : Int) (u10 u11 u12 u13 u14 u15 u16 u17 u18 u19 u20 u21 u22 u23 u24 u25 u26 u27 u28 u29 u30 u31 u32 u33 u34 u35 u36 u37 u38 u39 u40 u41 u42 u43 u44 u45 u46 u47 u48 u49 : Value), a' = { tmps := #[.pointer (some ⟨g, 0, none⟩), .int .i64 bits, undef, undef, .int .u64 n, .int .i64 sh, .bool false, .bool false, .int .i64 ((bits + 6) / 7), .int .i64 at_, u10, u11, u12, u13, u14, u15, u16, u17, u18, u19, u20, u21, u22, u23, u24, u25, u26, u27, u28, u29, u30, u31, u32, u33, u34, u35, u36, u37, u38, u39, u40, u41, u42, u43, u44, u45, u46, u47, u48, u49], defers := [] } ∧ sh = 7 * (k : Int) ∧ at_ = (k : Int) ∧ k < m ∧ Rdr 55 w' g l 0 ∧ Turn w w' g ∧ numG (m - k) n k l = R
structure NumQ (g : Nat) (w : World) (R : Int × Nat × Bool × Bool × List Int × Int) (e : Ending) (w' : World) : Prop where mk ::
  (out : e = .returned (.tuple #[.int .u64 R.1, .int .i64 (7 * (R.2.1 : Int)), .bool R.2.2.1, .bool R.2.2.2.1]) ∧ Rdr 55 w' g R.2.2.2.2.1 R.2.2.2.2.2 ∧ Turn w w' g)
theorem NumQ.of {g : Nat} {w w' : World} {R : Int × Nat × Bool × Bool × List Int × Int} {n : Int} {k : Nat} {s ok : Bool} {l : List Int} {y sh : Int} (h : (n, k, s, ok, l, y) = R) (hq : Rdr 55 w' g l y) (ht : Turn w w' g) (hs : sh = 7 * (k : Int)) :
    NumQ g w R (.returned (.tuple #[.int .u64 n, .int .i64 sh, .bool s, .bool ok])) w' := by
  subst h
  subst hs
  exact ⟨rfl, hq, ht⟩

set_option maxRecDepth 100000 in
theorem number_in (g : Nat) (bits : Int) (l : List Int) (w : World) (H : Rdr 55 w g l 0) (h1 : 1 ≤ bits) (h2 : bits ≤ 64) (m : Nat) (hm : (bits + 6) / 7 = m) (R : Int × Nat × Bool × Bool × List Int × Int) (hR : numG (m - 0) 0 0 l = R) :
    Calls Try.prog 34 #[.pointer (some ⟨g, 0, none⟩), .int .i64 bits] w (NumQ g w R) := by
  have HM := Lib.hid hm
  have HR := Lib.hid hR
  clear hm hR
  go_enter Try.func34, Try.ntmps34
  go_wp2
  refine wp_scope_jumps 0 (NumJ g bits w m R) (fun a' _ => m - (intOf (a'.tmps.getD 9 undef)).toNat) rfl ?_ ?_
  · go_wp2
    cases l with
    | nil =>
      go_step3
      go_wp2_with (first | (go_at_call 25; refine (byte_none0 g _ H).mono ?_; rintro e w1 ⟨rfl, hq, ht⟩; have HQ := Lib.hid hq; have HT := Lib.hid ht; clear hq ht) | (go_at_call 15; refine (err_r g _ _ _ HQ.out).mono ?_; rintro e w2 ⟨rfl, rfl⟩))
      simp only [Exit.jump]
      refine bodyPost_ret (v := .tuple #[.int .u64 0, .int .i64 (7 * ((0 : Nat) : Int)), .bool false, .bool false]) (by simp [results, Try.results34, go_sem]) rfl ?_
      exact NumQ.of ((numG_nil (by have := HM.out; omega)).symm.trans HR.out) HQ.out ((Turn.refl _ _).trans HT.out) rfl
    | cons c l =>
      by_cases hc : c < 128
      · go_step3
        go_wp2_with (first | (go_at_call 25; refine (byte_some g _ _ _ _ H).mono ?_; rintro e w1 ⟨rfl, hq, ht⟩; have HQ := Lib.hid hq; have HT := Lib.hid ht; clear hq ht) | (go_at_call 15; refine (err_r g _ _ _ HQ.out).mono ?_; rintro e w2 ⟨rfl, rfl⟩))
        simp only [Exit.jump]
        refine bodyPost_ret (v := .tuple #[.int .u64 (numS 0 0 c), .int .i64 (7 * ((0 : Nat) : Int) + 7), .bool (Go.bits .and .u8 c 64 != 0), .bool true]) (by simp [results, Try.results34, go_sem, numS]) rfl ?_
        exact NumQ.of ((numG_end (by have := HM.out; omega) hc).symm.trans HR.out) HQ.out ((Turn.refl _ _).trans HT.out) (by first | (simp; done) | (simp; omega))
      · have hc' : 128 ≤ c := by omega
        clear hc
        by_cases hm : 0 + 1 < m
        · have hkm : ((0 : Nat) : Int) + 1 < (bits + 6) / 7 := by have := HM.out; omega
          have hkm0 : 1 < (bits + 6) / 7 := by omega
          clear hm
          go_step3
          go_wp2_with (first | (go_at_call 25; refine (byte_some g _ _ _ _ H).mono ?_; rintro e w1 ⟨rfl, hq, ht⟩; have HQ := Lib.hid hq; have HT := Lib.hid ht; clear hq ht) | (go_at_call 15; refine (err_r g _ _ _ HQ.out).mono ?_; rintro e w2 ⟨rfl, rfl⟩))
          go_step3
          refine ⟨rfl, ?_⟩
          refine ⟨_, 0 + 1, l, _, _, _, _, _, _, _, _, _, _, _, _, _, _, _, _, _, _, _, _, _, _, _, _, _, _, _, _, _, _, _, _, _, _, _, _, _, _, _, _, _, _, rfl, by first | (simp; done) | (simp; omega), by simp, by have := HM.out; omega, HQ.out, (Turn.refl _ _).trans HT.out, ?_⟩
          have hG := (numG_go (by have := HM.out; omega) hc').symm.trans HR.out
          simpa [numS] using hG
        · have hkm : (bits + 6) / 7 ≤ ((0 : Nat) : Int) + 1 := by have := HM.out; omega
          have hkm0 : (bits + 6) / 7 ≤ 1 := by omega
          clear hm
          go_step3
          go_wp2_with (first | (go_at_call 25; refine (byte_some g _ _ _ _ H).mono ?_; rintro e w1 ⟨rfl, hq, ht⟩; have HQ := Lib.hid hq; have HT := Lib.hid ht; clear hq ht) | (go_at_call 15; refine (err_r g _ _ _ HQ.out).mono ?_; rintro e w2 ⟨rfl, rfl⟩) | (go_at_call 31; refine (fail_11 g _ _ HQ.out).mono ?_; rintro e w3 ⟨rfl, hq, ht⟩; have HQ2 := Lib.hid hq; have HT2 := Lib.hid ht; clear hq ht))
          simp only [Exit.jump]
          refine bodyPost_ret (v := .tuple #[.int .u64 (numS 0 0 c), .int .i64 (7 * ((0 : Nat) : Int) + 7), .bool false, .bool false]) (by simp [results, Try.results34, go_sem, numS]) rfl ?_
          exact NumQ.of ((numG_long (by have := HM.out; omega) hc').symm.trans HR.out) HQ2.out (((Turn.refl _ _).trans HT.out).trans HT2.out) (by first | (simp; done) | (simp; omega))
  · rintro a' w' ⟨n, k, l', sh, at_, u10, u11, u12, u13, u14, u15, u16, u17, u18, u19, u20, u21, u22, u23, u24, u25, u26, u27, u28, u29, u30, u31, u32, u33, u34, u35, u36, u37, u38, u39, u40, u41, u42, u43, u44, u45, u46, u47, u48, u49, rfl, rfl, rfl, hk, hq, ht, hR⟩
    have HQ0 := Lib.hid hq
    have HT0 := Lib.hid ht
    have HR' := Lib.hid hR
    have hk9 : k ≤ 9 := by have := HM.out; omega
    clear hq ht hR HR H
    cases l' with
    | nil =>
      go_wp2_with (first | (go_at_call 25; refine (byte_none0 g _ HQ0.out).mono ?_; rintro e w1 ⟨rfl, hq, ht⟩; have HQ := Lib.hid hq; have HT := Lib.hid ht; clear hq ht) | (go_at_call 15; refine (err_r g _ _ _ HQ.out).mono ?_; rintro e w2 ⟨rfl, rfl⟩))
      simp only [Exit.jump]
      refine bodyPost_ret (v := .tuple #[.int .u64 n, .int .i64 (7 * ((k : Nat) : Int)), .bool false, .bool false]) (by simp [results, Try.results34, go_sem]) rfl ?_
      exact NumQ.of ((numG_nil (by have := HM.out; omega)).symm.trans HR'.out) HQ.out (HT0.out.trans HT.out) rfl
    | cons c l =>
      by_cases hc : c < 128
      · skip
        go_wp2_with (first | (go_at_call 25; refine (byte_some g _ _ _ _ HQ0.out).mono ?_; rintro e w1 ⟨rfl, hq, ht⟩; have HQ := Lib.hid hq; have HT := Lib.hid ht; clear hq ht) | (go_at_call 15; refine (err_r g _ _ _ HQ.out).mono ?_; rintro e w2 ⟨rfl, rfl⟩))
        simp only [Exit.jump]
        refine bodyPost_ret (v := .tuple #[.int .u64 (numS n k c), .int .i64 (7 * ((k : Nat) : Int) + 7), .bool (Go.bits .and .u8 c 64 != 0), .bool true]) (by simp [results, Try.results34, go_sem, numS]) rfl ?_
        exact NumQ.of ((numG_end (by have := HM.out; omega) hc).symm.trans HR'.out) HQ.out (HT0.out.trans HT.out) (by first | (simp; done) | (simp; omega))
      · have hc' : 128 ≤ c := by omega
        clear hc
        by_cases hm : k + 1 < m
        · have hkm : ((k : Nat) : Int) + 1 < (bits + 6) / 7 := by have := HM.out; omega
          skip
          clear hm
          skip
          go_wp2_with (first | (go_at_call 25; refine (byte_some g _ _ _ _ HQ0.out).mono ?_; rintro e w1 ⟨rfl, hq, ht⟩; have HQ := Lib.hid hq; have HT := Lib.hid ht; clear hq ht) | (go_at_call 15; refine (err_r g _ _ _ HQ.out).mono ?_; rintro e w2 ⟨rfl, rfl⟩))
          go_step3
          refine ⟨rfl, ?_, ?_⟩
          · refine ⟨_, k + 1, l, _, _, _, _, _, _, _, _, _, _, _, _, _, _, _, _, _, _, _, _, _, _, _, _, _, _, _, _, _, _, _, _, _, _, _, _, _, _, _, _, _, _, rfl, by first | (simp; done) | (simp; omega), by simp, by have := HM.out; omega, HQ.out, HT0.out.trans HT.out, ?_⟩
            have hG := (numG_go (by have := HM.out; omega) hc').symm.trans HR'.out
            simpa [numS] using hG
          · simp [intOf]; omega
        · have hkm : (bits + 6) / 7 ≤ ((k : Nat) : Int) + 1 := by have := HM.out; omega
          skip
          clear hm
          skip
          go_wp2_with (first | (go_at_call 25; refine (byte_some g _ _ _ _ HQ0.out).mono ?_; rintro e w1 ⟨rfl, hq, ht⟩; have HQ := Lib.hid hq; have HT := Lib.hid ht; clear hq ht) | (go_at_call 15; refine (err_r g _ _ _ HQ.out).mono ?_; rintro e w2 ⟨rfl, rfl⟩) | (go_at_call 31; refine (fail_11 g _ _ HQ.out).mono ?_; rintro e w3 ⟨rfl, hq, ht⟩; have HQ2 := Lib.hid hq; have HT2 := Lib.hid ht; clear hq ht))
          simp only [Exit.jump]
          refine bodyPost_ret (v := .tuple #[.int .u64 (numS n k c), .int .i64 (7 * ((k : Nat) : Int) + 7), .bool false, .bool false]) (by simp [results, Try.results34, go_sem, numS]) rfl ?_
          exact NumQ.of ((numG_long (by have := HM.out; omega) hc').symm.trans HR'.out) HQ2.out ((HT0.out.trans HT.out).trans HT2.out) (by first | (simp; done) | (simp; omega))

end Go.Proofs.Ytnpiicnhdpldaaa.Lb
