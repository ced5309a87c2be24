/-
  Walks of the reference's reader (chapter 1): Fail, Byte. No condition but that the reader's block is one.
-/
import Derived.Test.YtnpiicnhdpldaaaLbF
import Derived.Test.YtnpiicnhdpldaaaLbU
namespace Go.Proofs.Ytnpiicnhdpldaaa.Rf
set_option linter.unusedVariables false
set_option linter.unusedSimpArgs false
open Go.RowKit Go.Proofs.YtnpiicnhdpldaaaW.PrintWords Go.Proofs.Ytnpiicnhdpldaaa.Lb

theorem fail_no (g : Nat) (x y : Int) (w : World) (h1 : w.cell? ⟨g, 1, none⟩ = some (.int .i64 y)) (h : y ≠ 0 ∨ x = 0) :
    Calls Try.prog 32 #[.pointer (some ⟨g, 0, none⟩), .int .i64 x] w fun e w' => e = .returned (.tuple #[]) ∧ w' = w := by
  by_cases hy : y = 0
  · subst hy
    have hx : (x != 0) = false := by simpa using h
    clear h
    go_enter Try.func32, Try.ntmps32
    go_wp2
    go_end0
    exact ⟨rfl, rfl⟩
  · have hx : (y == 0) = false := by simpa using hy
    clear h hy
    go_enter Try.func32, Try.ntmps32
    go_wp2
    go_end0
    exact ⟨rfl, rfl⟩

theorem fail_yes (g : Nat) (x : Int) (v : Value) (w : World) (h0 : w.cell? ⟨g, 0, none⟩ = some v) (h1 : w.cell? ⟨g, 1, none⟩ = some (.int .i64 0)) (hf0 : w.frozen? ⟨g, 0, none⟩ = false) (hf1 : w.frozen? ⟨g, 1, none⟩ = false) (h : x ≠ 0) :
    Calls Try.prog 32 #[.pointer (some ⟨g, 0, none⟩), .int .i64 x] w fun e w' => e = .returned (.tuple #[]) ∧ w' = (w.setCell ⟨g, 1, none⟩ (.int .i64 x)).setCell ⟨g, 0, none⟩ (.slice none 0 0) := by
  have hx : (x != 0) = true := by simpa using h
  clear h
  go_enter Try.func32, Try.ntmps32
  go_wp2
  go_end0
  exact ⟨rfl, rfl⟩

theorem fail_r (g : Nat) (l : List Int) (y x : Int) (w : World) (H : Rdr 44 w g l y) :
    Calls Try.prog 32 #[.pointer (some ⟨g, 0, none⟩), .int .i64 x] w fun e w' => e = .returned (.tuple #[]) ∧ Rdr 44 w' g (failL l y x) (failE y x) ∧ Turn w w' g := by
  obtain ⟨A, c, hb, hc, hr, hx⟩ := H.out
  by_cases h : y = 0 ∧ x ≠ 0
  · clear hx
    obtain ⟨rfl, hx⟩ := h
    refine (fail_yes g x _ w (cell0 hb) (cell1 hb) (blk_frozen hb 0) (blk_frozen hb 1) hx).mono ?_
    rintro e w' ⟨rfl, rfl⟩
    have e1 : failL l 0 x = [] := by simp [failL, hx]
    have e2 : failE 0 x = x := by simp [failE, hx]
    rw [e1, e2]
    refine ⟨rfl, ⟨none, 0, ?_, Nat.le_refl _, ReadsInt.nil _ _, by simp⟩, (Turn.set _ _ _ _).trans (Turn.set _ _ _ _)⟩
    have := blk_set (blk_set hb 1 (.int .i64 x)) 0 (.slice none 0 0)
    simpa using this
  · have e1 : failL l y x = l := by unfold failL; rw [if_neg h]
    have e2 : failE y x = y := by unfold failE; rw [if_neg h]
    rw [e1, e2]
    refine (fail_no g x y w (cell1 hb) (by rcases Int.lt_trichotomy y 0 with h' | h' | h' <;> first | (left; omega) | (right; exact Classical.byContradiction fun hx => h ⟨h', hx⟩))).mono ?_
    rintro e w' ⟨rfl, rfl⟩
    exact ⟨rfl, H, Turn.refl _ _⟩


theorem byte_none (g : Nat) (y : Int) (w : World) (H : Rdr 44 w g [] y) :
    Calls Try.prog 26 #[.pointer (some ⟨g, 0, none⟩)] w fun e w' => e = .returned (.int .u8 0) ∧ Rdr 44 w' g [] (failE y 10) ∧ Turn w w' g := by
  obtain ⟨A, c, hb, hc, hr, hx⟩ := H.out
  have h0 := cell0 hb
  have HH := Lib.hid H
  clear hb hc hr hx H
  go_enter Try.func26, Try.ntmps26
  go_wp2_with (go_at_call 32; refine (fail_r g _ _ 10 _ HH.out).mono ?_; rintro e w' ⟨rfl, hq, ht⟩; have HQ := Lib.hid hq; have HT := Lib.hid ht; clear hq ht)
  go_ret
  have := HQ.out
  have e1 : failL [] y 10 = [] := by simp [failL]
  rw [e1] at this
  exact ⟨rfl, this, HT.out⟩
theorem byte_none0 (g : Nat) (w : World) (H : Rdr 44 w g [] 0) :
    Calls Try.prog 26 #[.pointer (some ⟨g, 0, none⟩)] w fun e w' => e = .returned (.int .u8 0) ∧ Rdr 44 w' g [] 10 ∧ Turn w w' g := byte_none g 0 w H
/-- Where a reader's bytes lie: below a block's number. -/
def BlkOf (w : World) (g B : Nat) : Prop := ∃ ad n c e, w.heap[g]? = some (.cells #[.slice (some ad) n c, e] 44 (0, 0)) ∧ ad.block < B
theorem cut_run {i : TypeInfo} (hi : Try.prog.info? 5 = some i) (hsz : i.size = 1) (A : Option Addr) (n c m : Nat) (hm : m ≤ n) : ∀ W : World, (Instr.slice 25 (.slice A n c) (some (.int .i64 (m : Int))) none none).run Try.prog W = .ok (.slice (if c = m then A else A.map (·.add m)) (n - m) (c - m)) W := by
  intro W
  have ht := Try.underlying25
  have hel : Try.prog.elem 25 = 5 := by simp [Program.elem, ht]
  have hu : Try.prog.underlying 25 = some (.slice (Try.prog.elem 25)) := by rw [hel]; exact ht
  rw [run_slice_l W 25 A n c hu .i64 (m : Int) (Int.natCast_nonneg _) (by omega), hel]
  simp [sizeOf, typeInfo, hi, hsz, sliced, Result.andThen]
theorem byte_some (g B : Nat) (x y : Int) (l : List Int) (w : World) (H : Rdr 44 w g (x :: l) y) (hB : BlkOf w g B) :
    Calls Try.prog 26 #[.pointer (some ⟨g, 0, none⟩)] w fun e w' => e = .returned (.int .u8 x) ∧ Rdr 44 w' g l y ∧ Turn w w' g ∧ BlkOf w' g B := by
  obtain ⟨A, c, hb, hc, hr, hx⟩ := H.out
  obtain ⟨i0, hi, hz0, hz1, hz2⟩ := info_parts PLeb.info5
  obtain ⟨ad, rfl, hcell⟩ := hr.2.2 (by simp)
  have hblk : ad.block < B := by
    obtain ⟨ad2, n2, c2, e2, hb2, hlt⟩ := hB
    rw [hb] at hb2
    injection hb2 with hb2
    injection hb2 with hb2
    have : ad = ad2 := by have q := congrArg (fun q => q[0]?) hb2; simp at q; exact q.1
    rw [this]; exact hlt
  obtain ⟨A1, hA, hA1b⟩ : ∃ A1 : Option Addr, (if c = 1 then some ad else (some ad).map (·.add 1)) = A1 ∧ ∃ ad1, A1 = some ad1 ∧ ad1.block < B := by
    refine ⟨_, rfl, ?_⟩
    split
    · exact ⟨ad, rfl, hblk⟩
    · exact ⟨ad.add 1, rfl, by unfold Addr.add; split <;> exact hblk⟩
  have hcut := cut_run hi hz1 (some ad) (x :: l).length c 1 (by simp)
  rw [hA] at hcut
  have hA1 : ∀ (w : World) (k : IntKind) (xs : List Int), (x :: l).length ≤ c → ReadsInt w k (some ad) (x :: l).length xs → ReadsInt w k A1 ((x :: l).length - 1) (xs.drop 1) := fun w k xs h1 h2 => by
    rw [← hA]; exact h2.drop_ 1 (by simp) h1
  have HAB := Lib.hid hA1b
  clear hA hA1b hblk hB
  have hc1 : w.cell? ad = some (.int .u8 x) := by have := hcell 0 (by simp); rw [add_0] at this; simpa using this
  have hn : ((l.length : Int) + 1 == 0) = false := by simp; omega
  have h0 := cell0 hb
  have f0 := blk_frozen hb 0
  have hcu : ∀ W : World, (Instr.slice 25 (.slice (some ad) (l.length + 1) c) (some (.int .i64 1)) none none).run Try.prog W = .ok (.slice A1 l.length (c - 1)) W := by
    intro W; have := hcut W; simpa using this
  have HR : ReadsInt w .u8 A1 l.length l := by
    have := hA1 w .u8 (x :: l) hc hr; simpa using this
  have HRR := Lib.hid HR
  have HB := Lib.hid hb
  have HX := Lib.hid hx
  have HC : Hid (l.length ≤ c - 1) := Lib.hid (by simp at hc; omega)
  clear hcut hA1 hi hz0 hz1 hz2 hr HR hb hx hcell hc
  simp only [List.length_cons, Int.natCast_add, Int.natCast_one] at h0
  go_enter Try.func26, Try.ntmps26
  go_wp2
  go_ret
  have hnb : (w.setCell ⟨g, 0, none⟩ (.slice A1 l.length (c - 1))).heap[g]? = some (.cells #[.slice A1 l.length (c - 1), .int .i64 y] 44 (0, 0)) := by
    have := blk_set HB.out 0 (.slice A1 l.length (c - 1))
    simpa using this
  refine ⟨rfl, ⟨_, _, hnb, HC.out, reads_turn HB.out HRR.out (Turn.set _ _ _ _), fun z hz => HX.out.1 z (List.mem_cons_of_mem _ hz), by have := HX.out.2; simp at this; omega⟩, Turn.set _ _ _ _, ?_⟩
  obtain ⟨ad1, rfl, h1⟩ := HAB.out
  exact ⟨ad1, _, _, _, hnb, h1⟩

theorem fail_1 (g : Nat) (l : List Int) (y : Int) (w : World) (H : Rdr 44 w g l y) (hy : y = 0 ∨ l = []) :
    Calls Try.prog 32 #[.pointer (some ⟨g, 0, none⟩), .int .i64 1] w fun e w' => e = .returned (.tuple #[]) ∧ Rdr 44 w' g [] (argE y) ∧ Turn w w' g := by
  have h := fail_r g l y 1 w H
  have e1 : failL l y 1 = [] := by unfold failL; rcases hy with h | h <;> simp [h]
  have e2 : failE y 1 = argE y := by unfold failE argE; simp
  rw [e1, e2] at h
  exact h
theorem fail_10 (g : Nat) (l : List Int) (w : World) (H : Rdr 44 w g l 0) :
    Calls Try.prog 32 #[.pointer (some ⟨g, 0, none⟩), .int .i64 10] w fun e w' => e = .returned (.tuple #[]) ∧ Rdr 44 w' g [] 10 ∧ Turn w w' g := fail_r g l 0 10 w H
theorem fail_11 (g : Nat) (l : List Int) (w : World) (H : Rdr 44 w g l 0) :
    Calls Try.prog 32 #[.pointer (some ⟨g, 0, none⟩), .int .i64 11] w fun e w' => e = .returned (.tuple #[]) ∧ Rdr 44 w' g [] 11 ∧ Turn w w' g := fail_r g l 0 11 w H
theorem fail_13 (g : Nat) (l : List Int) (w : World) (H : Rdr 44 w g l 0) :
    Calls Try.prog 32 #[.pointer (some ⟨g, 0, none⟩), .int .i64 13] w fun e w' => e = .returned (.tuple #[]) ∧ Rdr 44 w' g [] 13 ∧ Turn w w' g := fail_r g l 0 13 w H
end Go.Proofs.Ytnpiicnhdpldaaa.Rf
