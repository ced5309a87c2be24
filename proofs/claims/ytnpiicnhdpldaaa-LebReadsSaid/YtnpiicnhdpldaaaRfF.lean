/-
  The walks of the reference's Take and Name (chapter 1). No condition but that the reader's block is one, and that a reader with an error has no bytes.
-/
import Derived.Test.YtnpiicnhdpldaaaRfE
namespace Go.Proofs.Ytnpiicnhdpldaaa.Rf
set_option linter.unusedVariables false
set_option linter.unusedSimpArgs false
open Go.RowKit Go.Proofs.YtnpiicnhdpldaaaW.PrintWords Go.Proofs.Ytnpiicnhdpldaaa.PLeb Go.Proofs.Ytnpiicnhdpldaaa.Lb Go.Proofs.Ytnpiicnhdpldaaa.Pure

structure TakeR (g : Nat) (w : World) (r : List Int × List Int × Int) (e : Ending) (w' : World) : Prop where mk ::
  (out : ∃ A c, e = .returned (.slice A r.1.length c) ∧ ReadsInt w' .u8 A r.1.length r.1 ∧ r.1.length ≤ c ∧ Rdr 44 w' g r.2.1 r.2.2 ∧ Turn w w' g)
theorem argE_ne (y : Int) : argE y ≠ 0 := by unfold argE; split <;> omega

set_option maxRecDepth 100000 in
theorem take_neg (g : Nat) (n : Int) (l : List Int) (y : Int) (w : World) (H : Rdr 44 w g l y) (hy : y = 0 ∨ l = []) (hn : n < 0) :
    Calls Try.prog 28 #[.pointer (some ⟨g, 0, none⟩), .int .i64 n] w (TakeR g w ([], [], argE y)) := by
  have HH := Lib.hid H
  have HY := Lib.hid hy
  have he : (argE y == 0) = false := by simpa using argE_ne y
  clear H hy
  go_enter Try.func28, Try.ntmps28
  go_wp2_with (go_at_call 32; refine (fail_1 g _ _ _ HH.out HY.out).mono ?_; rintro e w1 ⟨rfl, hq, ht⟩; have hc1 := cells44 hq; have HQ1 := Lib.hid hq; have HT1 := Lib.hid ht; clear hq ht)
  go_ret
  exact ⟨none, 0, rfl, ReadsInt.nil _ _, Nat.le_refl _, HQ1.out, HT1.out⟩
set_option maxRecDepth 100000 in
theorem take_err (g : Nat) (n : Int) (y : Int) (w : World) (H : Rdr 44 w g [] y) (hy : y ≠ 0) (hn : 0 ≤ n) :
    Calls Try.prog 28 #[.pointer (some ⟨g, 0, none⟩), .int .i64 n] w (TakeR g w ([], [], y)) := by
  have HH := Lib.hid H
  have hc1 := cells44 H
  have he : (y == 0) = false := by simpa using hy
  clear H hy
  go_enter Try.func28, Try.ntmps28
  go_wp2
  go_ret
  exact ⟨none, 0, rfl, ReadsInt.nil _ _, Nat.le_refl _, HH.out, Turn.refl _ _⟩
set_option maxRecDepth 100000 in
theorem take_short (g : Nat) (n : Int) (l : List Int) (w : World) (H : Rdr 44 w g l 0) (hn : 0 ≤ n) (hl : (l.length : Int) < n) :
    Calls Try.prog 28 #[.pointer (some ⟨g, 0, none⟩), .int .i64 n] w (TakeR g w ([], [], 10)) := by
  obtain ⟨A, c, hb, hc, hr, hx, hbd⟩ := H.out
  have HH := Lib.hid H
  have hc0 := cell0 hb
  have hc1 := cell1 hb
  clear H hb hc hr hx hbd
  go_enter Try.func28, Try.ntmps28
  go_wp2_with (go_at_call 32; refine (fail_10 g _ _ HH.out).mono ?_; rintro e w1 ⟨rfl, hq, ht⟩; clear hc0 hc1; have hc1 := cells44 hq; have HQ1 := Lib.hid hq; have HT1 := Lib.hid ht; clear hq ht)
  go_ret
  exact ⟨none, 0, rfl, ReadsInt.nil _ _, Nat.le_refl _, HQ1.out, HT1.out⟩
set_option maxRecDepth 100000 in
theorem take_some (g m : Nat) (l : List Int) (w : World) (H : Rdr 44 w g l 0) (hl : m ≤ l.length) :
    Calls Try.prog 28 #[.pointer (some ⟨g, 0, none⟩), .int .i64 (m : Int)] w (TakeR g w (l.take m, l.drop m, 0)) := by
  obtain ⟨A, c, hb, hc, hr, hx, hbd⟩ := H.out
  obtain ⟨i0, hi, hz0, hz1, hz2⟩ := info_parts PLeb.info5
  have hlt : (l.take m).length = m := by rw [List.length_take]; omega
  have hld : (l.drop m).length = l.length - m := List.length_drop
  have htk : ∀ W : World, (Instr.slice 25 (.slice A l.length c) none (some (.int .i64 (m : Int))) none).run Try.prog W = .ok (.slice A m c) W := by
    intro W
    have := (print_take_int (P := Try.prog) (k := .u8) 25 5 Try.underlying25 hi hz1 A c l (m : Int) (by omega) (by omega) hc).1 W
    rw [this, Int.toNat_natCast, hlt]
  have hrt : ReadsInt w .u8 A m (l.take m) := by
    have := (print_take_int (P := Try.prog) (k := .u8) 25 5 Try.underlying25 hi hz1 A c l (m : Int) (by omega) (by omega) hc).2.1 w hr
    rwa [Int.toNat_natCast, hlt] at this
  obtain ⟨A1, hcu, hrd, hc1⟩ := print_cut_int (P := Try.prog) (k := .u8) 25 5 Try.underlying25 hi hz1 A c l (m : Int) (by omega) (by omega) hc
  have hdr : ∀ W : World, (Instr.slice 25 (.slice A l.length c) (some (.int .i64 (m : Int))) none none).run Try.prog W = .ok (.slice A1 (l.length - m) (c - m)) W := by
    intro W
    have := hcu W
    rw [this, Int.toNat_natCast, hld]
  have HRD : Hid (ReadsInt w .u8 A1 (l.drop m).length (l.drop m)) := Lib.hid (by have := hrd w hr; rwa [Int.toNat_natCast] at this)
  have HC1 : Hid ((l.drop m).length ≤ c - m) := Lib.hid (by rwa [Int.toNat_natCast] at hc1)
  have HRT := Lib.hid hrt
  have HLT := Lib.hid hlt
  have HLD := Lib.hid hld
  have HB := Lib.hid hb
  have HX := Lib.hid hx
  have HBL2 : Hid (l.length ≤ 140737488351232) := Lib.hid hbd
  have HC : Hid (m ≤ c) := Lib.hid (by omega)
  have hc0 := cell0 hb
  have hc1 := cell1 hb
  have f0 := blk_frozen hb 0
  clear hcu hrd hc1 hrt hlt hld hb H hr hx hi hz0 hz1 hz2 hc hbd
  have hc1 := cell1 HB.out
  go_enter Try.func28, Try.ntmps28
  go_wp2
  go_ret
  have hnb : (w.setCell ⟨g, 0, none⟩ (.slice A1 (l.length - m) (c - m))).heap[g]? = some (.cells #[.slice A1 (l.length - m) (c - m), .int .i64 0] 44 (0, 0)) := by
    have := blk_set HB.out 0 (.slice A1 (l.length - m) (c - m))
    simpa using this
  refine ⟨A, c, by simp [HLT.out], by simp only [HLT.out]; exact reads_turn HB.out HRT.out (Turn.set _ _ _ _), by simp only [HLT.out]; exact HC.out, ⟨A1, c - m, by simp only [HLD.out]; exact hnb, HC1.out, reads_turn HB.out HRD.out (Turn.set _ _ _ _), fun z hz => HX.out z (List.mem_of_mem_drop hz), ?_⟩, Turn.set _ _ _ _⟩
  simp only [HLD.out]
  have := HBL2.out
  omega
theorem T_r (g : Nat) (n : Int) (l : List Int) (y : Int) (w : World) (H : Rdr 44 w g l y) (hy : y = 0 ∨ l = []) :
    Calls Try.prog 28 #[.pointer (some ⟨g, 0, none⟩), .int .i64 n] w (TakeR g w (takeF n l y)) := by
  unfold takeF
  by_cases hn : n < 0
  · rw [if_pos hn]; exact take_neg g n l y w H hy hn
  · rw [if_neg hn]
    by_cases h0 : y = 0
    · subst h0
      rw [if_pos rfl]
      by_cases hl : n ≤ l.length
      · obtain ⟨m, rfl⟩ := Int.eq_ofNat_of_zero_le (show 0 ≤ n by omega)
        rw [if_pos hl]
        exact take_some g m l w H (by omega)
      · rw [if_neg hl]; exact take_short g n l w H (by omega) (by omega)
    · rw [if_neg h0]
      obtain rfl : l = [] := by rcases hy with h | h; exact absurd h h0; exact h
      exact take_err g n y w H h0 (by omega)
end Go.Proofs.Ytnpiicnhdpldaaa.Rf
