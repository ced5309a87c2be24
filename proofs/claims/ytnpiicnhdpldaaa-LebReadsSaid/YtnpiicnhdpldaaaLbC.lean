/-
  The walks of the reader's numbers (leb: number in all its cases, U, S). No condition but that the reader's block is one, and that a reader with an error has no bytes.
-/
import Derived.Test.YtnpiicnhdpldaaaLbB
namespace Go.Proofs.Ytnpiicnhdpldaaa.Lb
set_option linter.unusedVariables false
set_option linter.unusedSimpArgs false
open Go.RowKit Go.Proofs.YtnpiicnhdpldaaaW.PrintWords

def argE (y : Int) : Int := if y = 0 then 1 else y
/-- The next number: its bits, how many bytes, the sign, whether it is one; what is left, the error. -/
def numF (bits : Int) (l : List Int) (y : Int) : Int × Nat × Bool × Bool × List Int × Int :=
  if bits < 1 ∨ 64 < bits then (0, 0, false, false, [], argE y) else
  if y = 0 then numG ((bits + 6) / 7).toNat 0 0 l else (0, 0, false, false, [], y)

theorem number_c (g : Nat) (bits : Int) (l : List Int) (y : Int) (w : World) (H : Rdr 55 w g l y) (hy : y = 0 ∨ l = []) :
    Calls Try.prog 34 #[.pointer (some ⟨g, 0, none⟩), .int .i64 bits] w (NumQ g w (numF bits l y)) := by
  by_cases hb : bits < 1 ∨ 64 < bits
  · have hR : numF bits l y = (0, 0, false, false, [], argE y) := by unfold numF; rw [if_pos hb]
    rw [hR]
    have hF : Calls Try.prog 31 #[.pointer (some ⟨g, 0, none⟩), .int .i64 1] w fun e w' => e = .returned (.tuple #[]) ∧ Rdr 55 w' g [] (argE y) ∧ Turn w w' g := by
      by_cases h0 : y = 0
      · subst h0; exact fail_1 g l w H
      · rw [show argE y = y from if_neg h0]
        obtain rfl : l = [] := by rcases hy with h | h; exact absurd h h0; exact h
        exact fail_bad g y 1 w h0 H
    have hd : (decide (bits < 1) || decide (64 < bits)) = true := by
      rcases hb with h | h <;> simp [h]
    clear hR hb hy
    by_cases h1 : bits < 1
    · go_enter Try.func34, Try.ntmps34
      go_wp2
      refine wp_scope_jumps 0 (fun _ _ => False) (fun _ _ => 0) rfl ?_ (fun _ _ h => h.elim)
      go_wp2_with (go_at_call 31; refine hF.mono ?_; rintro e w1 ⟨rfl, hq, ht⟩; have HQ := Lib.hid hq; have HT := Lib.hid ht; clear hq ht)
      simp only [Exit.jump]
      refine bodyPost_ret (v := .tuple #[.int .u64 0, .int .i64 0, .bool false, .bool false]) (by simp [results, Try.results34, go_sem]) rfl ⟨rfl, HQ.out, HT.out⟩
    · have h2 : 64 < bits := by simp [h1] at hd; exact hd
      go_enter Try.func34, Try.ntmps34
      go_wp2
      refine wp_scope_jumps 0 (fun _ _ => False) (fun _ _ => 0) rfl ?_ (fun _ _ h => h.elim)
      go_wp2_with (go_at_call 31; refine hF.mono ?_; rintro e w1 ⟨rfl, hq, ht⟩; have HQ := Lib.hid hq; have HT := Lib.hid ht; clear hq ht)
      simp only [Exit.jump]
      refine bodyPost_ret (v := .tuple #[.int .u64 0, .int .i64 0, .bool false, .bool false]) (by simp [results, Try.results34, go_sem]) rfl ⟨rfl, HQ.out, HT.out⟩
  · by_cases h0 : y = 0
    · subst h0
      refine number_in g bits l w H (by omega) (by omega) ((bits + 6) / 7).toNat (by omega) _ ?_
      unfold numF
      rw [if_neg hb, if_pos rfl, Nat.sub_zero]
    · obtain rfl : l = [] := by rcases hy with h | h; exact absurd h h0; exact h
      have hR : numF bits [] y = (0, 0, false, false, [], y) := by unfold numF; rw [if_neg hb, if_neg h0]
      rw [hR]
      have h1 : 1 ≤ bits := by omega
      have h2 : bits ≤ 64 := by omega
      have hn : (y != 0) = true := by simpa using h0
      have hB : Calls Try.prog 25 #[.pointer (some ⟨g, 0, none⟩)] w fun e w' => e = .returned (.int .u8 0) ∧ Rdr 55 w' g [] y ∧ Turn w w' g := by
        have h := byte_none g y w H
        rw [show failE y 10 = y by unfold failE; rw [if_neg (by intro h; exact h0 h.1)]] at h
        exact h
      clear hR hb hy h0
      go_enter Try.func34, Try.ntmps34
      go_wp2
      refine wp_scope_jumps 0 (fun _ _ => False) (fun _ _ => 0) rfl ?_ (fun _ _ h => h.elim)
      go_wp2
      go_step3
      go_wp2_with (first | (go_at_call 25; refine hB.mono ?_; rintro e w1 ⟨rfl, hq, ht⟩; have HQ := Lib.hid hq; have HT := Lib.hid ht; clear hq ht) | (go_at_call 15; refine (err_r g _ _ _ HQ.out).mono ?_; rintro e w2 ⟨rfl, rfl⟩))
      simp only [Exit.jump]
      refine bodyPost_ret (v := .tuple #[.int .u64 0, .int .i64 0, .bool false, .bool false]) (by simp [results, Try.results34, go_sem]) rfl ⟨rfl, HQ.out, HT.out⟩

/-- The tenth byte, where there is one. -/
theorem tenth {A : Option Addr} {n : Nat} {l : List Int} {w : World} (hr : ReadsInt w .u8 A n l) (h : 10 ≤ l.length) : ∃ ad, A = some ad ∧ w.cell? (ad.add 9) = some (.int .u8 (l.getD 9 0)) := by
  obtain ⟨ad, rfl, hc⟩ := hr.2.2 (by have := hr.1; omega)
  exact ⟨ad, rfl, hc 9 (by have := hr.1; omega)⟩

theorem numG_ok : ∀ (r : Nat) (n : Int) (k : Nat) (l : List Int) (n' : Int) (k' : Nat) (s : Bool) (l' : List Int) (y : Int), numG r n k l = (n', k', s, true, l', y) → y = 0 ∧ k ≤ k' ∧ k' ≤ k + r ∧ k' - k ≤ l.length
  | 0, n, k, l, n', k', s, l', y, h => by unfold numG at h; cases h
  | r + 1, n, k, [], n', k', s, l', y, h => by unfold numG at h; cases h
  | r + 1, n, k, c :: t, n', k', s, l', y, h => by
    unfold numG at h
    split at h
    · cases h; simp
    · obtain ⟨a, b, c, d⟩ := numG_ok r _ _ _ _ _ _ _ _ h
      simp only [List.length_cons]
      omega
theorem numF_ok {bits : Int} {l : List Int} {y : Int} {n : Int} {k : Nat} {s : Bool} {l' : List Int} {y' : Int} (h : numF bits l y = (n, k, s, true, l', y')) : y' = 0 ∧ k ≤ 10 ∧ k ≤ l.length ∧ 1 ≤ bits ∧ bits ≤ 64 := by
  unfold numF at h
  split at h
  · cases h
  · rename_i hb
    split at h
    · obtain ⟨a, b, c, d⟩ := numG_ok _ _ _ _ _ _ _ _ _ h
      omega
    · cases h

/-- The next number of so many bits: it, what is left, the error. -/
def uF (bits : Int) (l : List Int) (y : Int) : Int × List Int × Int :=
  let R := numF bits l y
  if R.2.2.2.1 = false then (0, R.2.2.2.2.1, R.2.2.2.2.2) else
  if (64 < 7 * (R.2.1 : Int) ∧ 1 < l.getD 9 0) ∨ (bits < 64 ∧ (R.1 / 2 ^ bits.toNat != 0) = true) then (0, [], 11) else (R.1, R.2.2.2.2.1, R.2.2.2.2.2)
structure UQ (k : IntKind) (g : Nat) (w : World) (r : Int × List Int × Int) (e : Ending) (w' : World) : Prop where mk ::
  (out : e = .returned (.int k r.1) ∧ Rdr 55 w' g r.2.1 r.2.2 ∧ Turn w w' g)
theorem UF.fail {g : Nat} {w w' : World} {bits : Int} {l : List Int} {y n : Int} {k : Nat} {s : Bool} {l' : List Int} {y' : Int} (hR : numF bits l y = (n, k, s, true, l', y'))
    (hc : (64 < 7 * (k : Int) ∧ 1 < l.getD 9 0) ∨ (bits < 64 ∧ (n / 2 ^ bits.toNat != 0) = true)) (hq : Rdr 55 w' g [] 11) (ht : Turn w w' g) : UQ .u64 g w (uF bits l y) (.returned (.int .u64 0)) w' := by
  have e : uF bits l y = (0, [], 11) := by unfold uF; rw [hR]; simp only; rw [if_neg (by simp), if_pos hc]
  rw [e]; exact ⟨rfl, hq, ht⟩
theorem UF.fine {g : Nat} {w w' : World} {bits : Int} {l : List Int} {y n : Int} {k : Nat} {s : Bool} {l' : List Int} {y' : Int} (hR : numF bits l y = (n, k, s, true, l', y'))
    (hc : ¬ ((64 < 7 * (k : Int) ∧ 1 < l.getD 9 0) ∨ (bits < 64 ∧ (n / 2 ^ bits.toNat != 0) = true))) (hq : Rdr 55 w' g l' y') (ht : Turn w w' g) : UQ .u64 g w (uF bits l y) (.returned (.int .u64 n)) w' := by
  have e : uF bits l y = (n, l', y') := by unfold uF; rw [hR]; simp only; rw [if_neg (by simp), if_neg hc]
  rw [e]; exact ⟨rfl, hq, ht⟩

set_option maxRecDepth 100000 in
theorem u_none (g : Nat) (bits : Int) (l : List Int) (y : Int) (w : World) (H : Rdr 55 w g l y) (hy : y = 0 ∨ l = []) (n : Int) (k : Nat) (s : Bool) (l' : List Int) (y' : Int) (hR : numF bits l y = (n, k, s, false, l', y')) :
    Calls Try.prog 14 #[.pointer (some ⟨g, 0, none⟩), .int .i64 bits] w (UQ .u64 g w (uF bits l y)) := by
  obtain ⟨A, c, hb, hc, hr, hx⟩ := H.out
  have h0 := cell0 hb
  have hN := number_c g bits l y w H hy
  rw [hR] at hN
  have HN := Lib.hid hN
  have e : uF bits l y = (0, l', y') := by unfold uF; rw [hR]; simp
  rw [e]
  clear hR hb hr hN hx hc hy e
  go_enter Try.func14, Try.ntmps14
  go_wp2_with (first | (go_at_call 33; refine (bytes_c g _ _ h0).mono ?_; rintro e w1 ⟨rfl, rfl⟩) | (go_at_call 34; refine HN.out.mono ?_; intro e w1 hnq; obtain ⟨he, hq, ht⟩ := hnq.out; subst he; clear hnq; have HQ := Lib.hid hq; have HT := Lib.hid ht; clear hq ht) | (go_at_call 31; refine (fail_11 g _ _ HQ.out).mono ?_; rintro e w3 ⟨rfl, hq, ht⟩; have HQ2 := Lib.hid hq; have HT2 := Lib.hid ht; clear hq ht))
  go_ret
  exact ⟨rfl, HQ.out, HT.out⟩

set_option maxRecDepth 100000 in
theorem u_some (g : Nat) (bits : Int) (l : List Int) (y : Int) (w : World) (H : Rdr 55 w g l y) (hy : y = 0 ∨ l = []) (n : Int) (k : Nat) (s : Bool) (l' : List Int) (hR : numF bits l y = (n, k, s, true, l', 0)) :
    Calls Try.prog 14 #[.pointer (some ⟨g, 0, none⟩), .int .i64 bits] w (UQ .u64 g w (uF bits l y)) := by
  obtain ⟨A, c, hb, hc, hr, hx⟩ := H.out
  have h0 := cell0 hb
  obtain ⟨_, hk, hkl, h1, h2⟩ := numF_ok hR
  have hN := number_c g bits l y w H hy
  rw [hR] at hN
  have HN := Lib.hid hN
  have HR := Lib.hid hR
  clear hN hR hy
  by_cases c1 : 64 < 7 * (k : Int)
  · obtain ⟨ad, rfl, h9⟩ := tenth hr (by omega)
    have H9 : Hid (∀ w1, Turn w w1 g → w1.cell? ⟨ad.block, ad.off + 9, none⟩ = some (.int .u8 (l.getD 9 0))) := Lib.hid fun w1 ht => by
      obtain ⟨ad', e, h9'⟩ := tenth (reads_turn hb hr ht) (by omega)
      injection e with e; subst e
      exact h9'
    have HL : Hid ((9:Nat) < l.length) := Lib.hid (by omega)
    have hL : (9 : Int) < (l.length : Int) := by have := HL.out; omega
    have hk10 : k = 10 := by omega
    clear hb hr hx hc hkl h9
    generalize hB : l.getD 9 0 = B at *
    have HB := Lib.hid hB
    clear hB
    by_cases c2 : 1 < B
    · go_enter Try.func14, Try.ntmps14
      go_wp2_with (first | (go_at_call 33; refine (bytes_c g _ _ h0).mono ?_; rintro e w1 ⟨rfl, rfl⟩) | (go_at_call 34; refine HN.out.mono ?_; intro e w1 hnq; obtain ⟨he, hq, ht⟩ := hnq.out; subst he; clear hnq; have h9 := H9.out _ ht; have HQ := Lib.hid hq; have HT := Lib.hid ht; clear hq ht) | (go_at_call 31; refine (fail_11 g _ _ HQ.out).mono ?_; rintro e w3 ⟨rfl, hq, ht⟩; have HQ2 := Lib.hid hq; have HT2 := Lib.hid ht; clear hq ht))
      go_ret
      exact UF.fail HR.out (.inl ⟨c1, by rw [HB.out]; exact c2⟩) HQ2.out (HT.out.trans HT2.out)
    · by_cases c3 : bits < 64
      · by_cases c4 : (n / 2 ^ bits.toNat != 0) = true
        · go_enter Try.func14, Try.ntmps14
          go_wp2_with (first | (go_at_call 33; refine (bytes_c g _ _ h0).mono ?_; rintro e w1 ⟨rfl, rfl⟩) | (go_at_call 34; refine HN.out.mono ?_; intro e w1 hnq; obtain ⟨he, hq, ht⟩ := hnq.out; subst he; clear hnq; have h9 := H9.out _ ht; have HQ := Lib.hid hq; have HT := Lib.hid ht; clear hq ht) | (go_at_call 31; refine (fail_11 g _ _ HQ.out).mono ?_; rintro e w3 ⟨rfl, hq, ht⟩; have HQ2 := Lib.hid hq; have HT2 := Lib.hid ht; clear hq ht))
          go_ret
          exact UF.fail HR.out (.inr ⟨c3, c4⟩) HQ2.out (HT.out.trans HT2.out)
        · have c4' := Bool.eq_false_iff.2 c4
          clear c4
          go_enter Try.func14, Try.ntmps14
          go_wp2_with (first | (go_at_call 33; refine (bytes_c g _ _ h0).mono ?_; rintro e w1 ⟨rfl, rfl⟩) | (go_at_call 34; refine HN.out.mono ?_; intro e w1 hnq; obtain ⟨he, hq, ht⟩ := hnq.out; subst he; clear hnq; have h9 := H9.out _ ht; have HQ := Lib.hid hq; have HT := Lib.hid ht; clear hq ht) | (go_at_call 31; refine (fail_11 g _ _ HQ.out).mono ?_; rintro e w3 ⟨rfl, hq, ht⟩; have HQ2 := Lib.hid hq; have HT2 := Lib.hid ht; clear hq ht))
          go_ret
          exact UF.fine HR.out (by rw [HB.out]; rintro (⟨_, h⟩ | ⟨h, h'⟩) <;> first | omega | (rw [c4'] at h'; cases h')) HQ.out HT.out
      · go_enter Try.func14, Try.ntmps14
        go_wp2_with (first | (go_at_call 33; refine (bytes_c g _ _ h0).mono ?_; rintro e w1 ⟨rfl, rfl⟩) | (go_at_call 34; refine HN.out.mono ?_; intro e w1 hnq; obtain ⟨he, hq, ht⟩ := hnq.out; subst he; clear hnq; have h9 := H9.out _ ht; have HQ := Lib.hid hq; have HT := Lib.hid ht; clear hq ht) | (go_at_call 31; refine (fail_11 g _ _ HQ.out).mono ?_; rintro e w3 ⟨rfl, hq, ht⟩; have HQ2 := Lib.hid hq; have HT2 := Lib.hid ht; clear hq ht))
        go_ret
        exact UF.fine HR.out (by rw [HB.out]; rintro (⟨_, h⟩ | ⟨h, h'⟩) <;> omega) HQ.out HT.out

  · clear hb hr hx hc hkl
    by_cases c3 : bits < 64
    · by_cases c4 : (n / 2 ^ bits.toNat != 0) = true
      · go_enter Try.func14, Try.ntmps14
        go_wp2_with (first | (go_at_call 33; refine (bytes_c g _ _ h0).mono ?_; rintro e w1 ⟨rfl, rfl⟩) | (go_at_call 34; refine HN.out.mono ?_; intro e w1 hnq; obtain ⟨he, hq, ht⟩ := hnq.out; subst he; clear hnq; have HQ := Lib.hid hq; have HT := Lib.hid ht; clear hq ht) | (go_at_call 31; refine (fail_11 g _ _ HQ.out).mono ?_; rintro e w3 ⟨rfl, hq, ht⟩; have HQ2 := Lib.hid hq; have HT2 := Lib.hid ht; clear hq ht))
        go_ret
        exact UF.fail HR.out (.inr ⟨c3, c4⟩) HQ2.out (HT.out.trans HT2.out)
      · have c4' := Bool.eq_false_iff.2 c4
        clear c4
        go_enter Try.func14, Try.ntmps14
        go_wp2_with (first | (go_at_call 33; refine (bytes_c g _ _ h0).mono ?_; rintro e w1 ⟨rfl, rfl⟩) | (go_at_call 34; refine HN.out.mono ?_; intro e w1 hnq; obtain ⟨he, hq, ht⟩ := hnq.out; subst he; clear hnq; have HQ := Lib.hid hq; have HT := Lib.hid ht; clear hq ht) | (go_at_call 31; refine (fail_11 g _ _ HQ.out).mono ?_; rintro e w3 ⟨rfl, hq, ht⟩; have HQ2 := Lib.hid hq; have HT2 := Lib.hid ht; clear hq ht))
        go_ret
        exact UF.fine HR.out (by rintro (⟨h, _⟩ | ⟨h, h'⟩) <;> first | omega | (rw [c4'] at h'; cases h')) HQ.out HT.out
    · go_enter Try.func14, Try.ntmps14
      go_wp2_with (first | (go_at_call 33; refine (bytes_c g _ _ h0).mono ?_; rintro e w1 ⟨rfl, rfl⟩) | (go_at_call 34; refine HN.out.mono ?_; intro e w1 hnq; obtain ⟨he, hq, ht⟩ := hnq.out; subst he; clear hnq; have HQ := Lib.hid hq; have HT := Lib.hid ht; clear hq ht) | (go_at_call 31; refine (fail_11 g _ _ HQ.out).mono ?_; rintro e w3 ⟨rfl, hq, ht⟩; have HQ2 := Lib.hid hq; have HT2 := Lib.hid ht; clear hq ht))
      go_ret
      exact UF.fine HR.out (by rintro (⟨h, _⟩ | ⟨h, h'⟩) <;> omega) HQ.out HT.out


theorem u_c (g : Nat) (bits : Int) (l : List Int) (y : Int) (w : World) (H : Rdr 55 w g l y) (hy : y = 0 ∨ l = []) :
    Calls Try.prog 14 #[.pointer (some ⟨g, 0, none⟩), .int .i64 bits] w (UQ .u64 g w (uF bits l y)) := by
  rcases hR : numF bits l y with ⟨n, k, s, ok, l', y'⟩
  cases ok
  · exact u_none g bits l y w H hy n k s l' y' hR
  · obtain rfl := (numF_ok hR).1
    exact u_some g bits l y w H hy n k s l' hR
end Go.Proofs.Ytnpiicnhdpldaaa.Lb
