/-
  Walks of the reader's small functions of leb (bytes, Err, Left, Fail, Byte). No condition but that the reader's block is one.
-/
import Derived.Test.YtnpiicnhdpldaaaPLebx0
import Derived.Lib.Hide
namespace Go.Proofs.Ytnpiicnhdpldaaa.Lb
set_option linter.unusedVariables false
set_option linter.unusedSimpArgs false
open Go.RowKit Go.Proofs.YtnpiicnhdpldaaaW.PrintWords

/-- A reader: its block, its bytes, its error. -/
structure Rdr (T : Nat) (w : World) (g : Nat) (l : List Int) (e : Int) : Prop where mk ::
  (out : ∃ A c, w.heap[g]? = some (.cells #[.slice A l.length c, .int .i64 e] T (0, 0)) ∧ l.length ≤ c ∧ ReadsInt w .u8 A l.length l ∧ (∀ x ∈ l, 0 ≤ x ∧ x < 256) ∧ l.length ≤ 140737488351232)

/-- What a call on the block g has turned: that block, and what is new. -/
structure Turn (w w' : World) (g : Nat) : Prop where
  os : w'.os = w.os
  tape : w'.tape = w.tape
  output : w'.output = w.output
  size : w.heap.size ≤ w'.heap.size
  block : ∀ k, k < w.heap.size → k ≠ g → w'.heap[k]? = w.heap[k]?

theorem Turn.refl (w : World) (g : Nat) : Turn w w g := ⟨rfl, rfl, rfl, Nat.le_refl _, fun _ _ _ => rfl⟩
theorem Turn.of_below {w w' : World} (h : Below w.heap.size w w') (g : Nat) : Turn w w' g := ⟨h.os, h.tape, h.output, h.size, fun k hk _ => h.block k hk⟩
theorem Turn.trans {a b c : World} {g : Nat} (h : Turn a b g) (k : Turn b c g) : Turn a c g :=
  ⟨k.os.trans h.os, k.tape.trans h.tape, k.output.trans h.output, Nat.le_trans h.size k.size, fun i hi hg => (k.block i (Nat.lt_of_lt_of_le hi h.size) hg).trans (h.block i hi hg)⟩
theorem Turn.set (w : World) (g i : Nat) (u : Value) : Turn w (w.setCell ⟨g, i, none⟩ u) g :=
  ⟨rfl, rfl, rfl, by simp [World.setCell], fun k _ hk => Below.heap_setCell w ⟨g, i, none⟩ u k hk⟩
theorem Turn.below {w0 w w' : World} {g : Nat} (hb : Below w0.heap.size w0 w) (h : Turn w w' g) (hg : w0.heap.size ≤ g) : Below w0.heap.size w0 w' :=
  hb.trans ⟨h.os, h.tape, h.output, h.size, fun k hk => h.block k (Nat.lt_of_lt_of_le hk hb.size) (by omega)⟩
theorem Turn.keep {w w' : World} {g : Nat} (h : Turn w w' g) : KeepBut w w' g none := ⟨h.size, fun i hi hg _ => h.block i hi hg⟩

theorem bytes_c (g : Nat) (v : Value) (w : World) (h0 : w.cell? ⟨g, 0, none⟩ = some v) :
    Calls Try.prog 33 #[.pointer (some ⟨g, 0, none⟩)] w fun e w' => e = .returned v ∧ w' = w := by
  go_enter Try.func33, Try.ntmps33
  go_wp2
  go_ret
  exact ⟨rfl, rfl⟩

theorem err_c (g : Nat) (v : Value) (w : World) (h0 : w.cell? ⟨g, 1, none⟩ = some v) :
    Calls Try.prog 15 #[.pointer (some ⟨g, 0, none⟩)] w fun e w' => e = .returned v ∧ w' = w := by
  go_enter Try.func15, Try.ntmps15
  go_wp2
  go_ret
  exact ⟨rfl, rfl⟩

theorem left_c (g : Nat) (A : Option Addr) (n c : Nat) (w : World) (h0 : w.cell? ⟨g, 0, none⟩ = some (.slice A n c)) :
    Calls Try.prog 16 #[.pointer (some ⟨g, 0, none⟩)] w fun e w' => e = .returned (.int .i64 n) ∧ w' = w := by
  go_enter Try.func16, Try.ntmps16
  go_wp2_with (go_at_call 33; refine (bytes_c g _ _ h0).mono ?_; rintro e w' ⟨rfl, rfl⟩)
  go_ret
  exact ⟨rfl, rfl⟩
theorem fail_no (g : Nat) (x y : Int) (w : World) (h1 : w.cell? ⟨g, 1, none⟩ = some (.int .i64 y)) (h : y ≠ 0 ∨ x = 0) :
    Calls Try.prog 31 #[.pointer (some ⟨g, 0, none⟩), .int .i64 x] w fun e w' => e = .returned (.tuple #[]) ∧ w' = w := by
  by_cases hy : y = 0
  · subst hy
    have hx : (x != 0) = false := by simpa using h
    clear h
    go_enter Try.func31, Try.ntmps31
    go_wp2
    go_end0
    exact ⟨rfl, rfl⟩
  · have hx : (y == 0) = false := by simpa using hy
    clear h hy
    go_enter Try.func31, Try.ntmps31
    go_wp2
    go_end0
    exact ⟨rfl, rfl⟩

theorem fail_yes (g : Nat) (x : Int) (v : Value) (w : World) (h0 : w.cell? ⟨g, 0, none⟩ = some v) (h1 : w.cell? ⟨g, 1, none⟩ = some (.int .i64 0)) (hf0 : w.frozen? ⟨g, 0, none⟩ = false) (hf1 : w.frozen? ⟨g, 1, none⟩ = false) (h : x ≠ 0) :
    Calls Try.prog 31 #[.pointer (some ⟨g, 0, none⟩), .int .i64 x] w fun e w' => e = .returned (.tuple #[]) ∧ w' = (w.setCell ⟨g, 0, none⟩ (.slice none 0 0)).setCell ⟨g, 1, none⟩ (.int .i64 x) := by
  have hx : (x != 0) = true := by simpa using h
  clear h
  go_enter Try.func31, Try.ntmps31
  go_wp2
  go_end0
  exact ⟨rfl, rfl⟩

theorem cell0 {T : Nat} {w : World} {g n c : Nat} {A : Option Addr} {e : Int} (hb : w.heap[g]? = some (.cells #[.slice A n c, .int .i64 e] T (0, 0))) : w.cell? ⟨g, 0, none⟩ = some (.slice A n c) := (blk_cell hb 0).trans rfl
theorem cell1 {T : Nat} {w : World} {g n c : Nat} {A : Option Addr} {e : Int} (hb : w.heap[g]? = some (.cells #[.slice A n c, .int .i64 e] T (0, 0))) : w.cell? ⟨g, 1, none⟩ = some (.int .i64 e) := (blk_cell hb 1).trans rfl

/-- Fail, of a reader: what it holds then. -/
def failL (l : List Int) (e x : Int) : List Int := if e = 0 ∧ x ≠ 0 then [] else l
def failE (e x : Int) : Int := if e = 0 ∧ x ≠ 0 then x else e
theorem fail_r (g : Nat) (l : List Int) (y x : Int) (w : World) (H : Rdr 55 w g l y) :
    Calls Try.prog 31 #[.pointer (some ⟨g, 0, none⟩), .int .i64 x] w fun e w' => e = .returned (.tuple #[]) ∧ Rdr 55 w' g (failL l y x) (failE y x) ∧ Turn w w' g := by
  obtain ⟨A, c, hb, hc, hr, hx⟩ := H.out
  by_cases h : y = 0 ∧ x ≠ 0
  · clear hx
    obtain ⟨rfl, hx⟩ := h
    refine (fail_yes g x _ w (cell0 hb) (cell1 hb) (blk_frozen hb 0) (blk_frozen hb 1) hx).mono ?_
    rintro e w' ⟨rfl, rfl⟩
    have e1 : failL l 0 x = [] := by simp [failL, hx]
    have e2 : failE 0 x = x := by simp [failE, hx]
    rw [e1, e2]
    refine ⟨rfl, ⟨none, 0, ?_, Nat.le_refl _, ReadsInt.nil _ _, by simp⟩, (Turn.set _ _ _ _).trans (Turn.set _ _ _ _)⟩
    have := blk_set (blk_set hb 0 (.slice none 0 0)) 1 (.int .i64 x)
    simpa using this
  · have e1 : failL l y x = l := by unfold failL; rw [if_neg h]
    have e2 : failE y x = y := by unfold failE; rw [if_neg h]
    rw [e1, e2]
    refine (fail_no g x y w (cell1 hb) (by rcases Int.lt_trichotomy y 0 with h' | h' | h' <;> first | (left; omega) | (right; exact Classical.byContradiction fun hx => h ⟨h', hx⟩))).mono ?_
    rintro e w' ⟨rfl, rfl⟩
    exact ⟨rfl, H, Turn.refl _ _⟩


theorem fail_11 (g : Nat) (l : List Int) (w : World) (H : Rdr 55 w g l 0) :
    Calls Try.prog 31 #[.pointer (some ⟨g, 0, none⟩), .int .i64 11] w fun e w' => e = .returned (.tuple #[]) ∧ Rdr 55 w' g [] 11 ∧ Turn w w' g := fail_r g l 0 11 w H
theorem fail_1 (g : Nat) (l : List Int) (w : World) (H : Rdr 55 w g l 0) :
    Calls Try.prog 31 #[.pointer (some ⟨g, 0, none⟩), .int .i64 1] w fun e w' => e = .returned (.tuple #[]) ∧ Rdr 55 w' g [] 1 ∧ Turn w w' g := fail_r g l 0 1 w H
theorem fail_bad (g : Nat) (y x : Int) (w : World) (hy : y ≠ 0) (H : Rdr 55 w g [] y) :
    Calls Try.prog 31 #[.pointer (some ⟨g, 0, none⟩), .int .i64 x] w fun e w' => e = .returned (.tuple #[]) ∧ Rdr 55 w' g [] y ∧ Turn w w' g := by
  have h := fail_r g [] y x w H
  have e1 : failL [] y x = [] := by unfold failL; split <;> rfl
  have e2 : failE y x = y := by unfold failE; rw [if_neg (by intro h; exact hy h.1)]
  rw [e1, e2] at h
  exact h

theorem err_r (g : Nat) (l : List Int) (e : Int) (w : World) (H : Rdr 55 w g l e) :
    Calls Try.prog 15 #[.pointer (some ⟨g, 0, none⟩)] w fun en w' => en = .returned (.int .i64 e) ∧ w' = w := by
  obtain ⟨A, c, hb, _⟩ := H.out
  exact err_c g _ w (cell1 hb)
theorem left_r (g : Nat) (l : List Int) (e : Int) (w : World) (H : Rdr 55 w g l e) :
    Calls Try.prog 16 #[.pointer (some ⟨g, 0, none⟩)] w fun en w' => en = .returned (.int .i64 l.length) ∧ w' = w := by
  obtain ⟨A, c, hb, _⟩ := H.out
  exact left_c g A _ c w (cell0 hb)

theorem add_0 (a : Addr) : a.add 0 = a := by unfold Addr.add; simp

/-- A row that is read lies apart from a reader's block. -/
theorem reads_turn {T : Nat} {w w' : World} {g n c m : Nat} {A B : Option Addr} {e : Int} {l : List Int} (hb : w.heap[g]? = some (.cells #[.slice A n c, .int .i64 e] T (0, 0))) (hr : ReadsInt w .u8 B m l) (ht : Turn w w' g) : ReadsInt w' .u8 B m l := by
  refine ⟨hr.1, hr.2.1, fun hp => ?_⟩
  obtain ⟨ad, rfl, hcell⟩ := hr.2.2 hp
  have hg : ad.block ≠ g := by
    intro he
    have h0 := hcell 0 hp
    rw [add_0] at h0
    rw [← he] at hb
    unfold World.cell? at h0
    rw [hb] at h0
    simp only at h0
    split at h0
    · cases h0
    · rcases ad with ⟨b, o, s⟩
      match o with
      | 0 => simp at h0
      | 1 => simp at h0
      | k + 2 => simp at h0
  refine ⟨ad, rfl, fun j hj => ?_⟩
  have hh := hcell j hj
  have hbk : (ad.add j).block = ad.block := by unfold Addr.add; split <;> rfl
  have hlt := World.block_lt_of_cell? w _ hh
  rw [hbk] at hlt
  have := ht.block ad.block hlt hg
  rw [← hbk] at this
  rw [World.cell?_of_block (w := w) this]
  exact hh

theorem byte_none (g : Nat) (y : Int) (w : World) (H : Rdr 55 w g [] y) :
    Calls Try.prog 25 #[.pointer (some ⟨g, 0, none⟩)] w fun e w' => e = .returned (.int .u8 0) ∧ Rdr 55 w' g [] (failE y 10) ∧ Turn w w' g := by
  obtain ⟨A, c, hb, hc, hr, hx⟩ := H.out
  have h0 := cell0 hb
  have HH := Lib.hid H
  clear hb hc hr hx H
  go_enter Try.func25, Try.ntmps25
  go_wp2_with (first | (go_at_call 16; refine (left_c g _ _ _ _ h0).mono ?_; rintro e w' ⟨rfl, rfl⟩) | (go_at_call 31; refine (fail_r g _ _ 10 _ HH.out).mono ?_; rintro e w' ⟨rfl, hq, ht⟩; have HQ := Lib.hid hq; have HT := Lib.hid ht; clear hq ht))
  go_ret
  have := HQ.out
  have e1 : failL [] y 10 = [] := by simp [failL]
  rw [e1] at this
  exact ⟨rfl, this, HT.out⟩

theorem byte_none0 (g : Nat) (w : World) (H : Rdr 55 w g [] 0) :
    Calls Try.prog 25 #[.pointer (some ⟨g, 0, none⟩)] w fun e w' => e = .returned (.int .u8 0) ∧ Rdr 55 w' g [] 10 ∧ Turn w w' g := byte_none g 0 w H

theorem byte_some (g : Nat) (x y : Int) (l : List Int) (w : World) (H : Rdr 55 w g (x :: l) y) :
    Calls Try.prog 25 #[.pointer (some ⟨g, 0, none⟩)] w fun e w' => e = .returned (.int .u8 x) ∧ Rdr 55 w' g l y ∧ Turn w w' g := by
  obtain ⟨A, c, hb, hc, hr, hx⟩ := H.out
  obtain ⟨i0, hi, hz0, hz1, hz2⟩ := info_parts PLeb.info5
  obtain ⟨A1, hcut, hA1⟩ := print_cut (P := Try.prog) 25 5 .i64 Try.underlying25 hi hz1 A (x :: l).length c 1 (by simp)
  obtain ⟨ad, rfl, hcell⟩ := hr.2.2 (by simp)
  have hc1 : w.cell? ad = some (.int .u8 x) := by have := hcell 0 (by simp); rw [add_0] at this; simpa using this
  have hn : ((l.length : Int) + 1 == 0) = false := by simp; omega
  have h0 := cell0 hb
  have f0 := blk_frozen hb 0
  have hcu : ∀ W : World, (Instr.slice 25 (.slice (some ad) (l.length + 1) c) (some (.int .i64 1)) none none).run Try.prog W = .ok (.slice A1 l.length (c - 1)) W := by
    intro W; have := hcut W; simpa using this
  have HR : ReadsInt w .u8 A1 l.length l := by
    have := hA1 w .u8 (x :: l) hc hr; simpa using this
  have HRR := Lib.hid HR
  have HB := Lib.hid hb
  have HX := Lib.hid hx
  have HC : Hid (l.length ≤ c - 1) := Lib.hid (by simp at hc; omega)
  clear hcut hA1 hi hz0 hz1 hz2 hr HR hb hx hcell hc
  simp only [List.length_cons, Int.natCast_add, Int.natCast_one] at h0
  go_enter Try.func25, Try.ntmps25
  go_wp2_with (go_at_call 16; refine (left_c g _ _ _ _ h0).mono ?_; rintro e w' ⟨rfl, rfl⟩)
  go_ret
  refine ⟨rfl, ⟨_, _, ?_, HC.out, reads_turn HB.out HRR.out (Turn.set _ _ _ _), fun z hz => HX.out.1 z (List.mem_cons_of_mem _ hz), by have := HX.out.2; simp at this; omega⟩, Turn.set _ _ _ _⟩
  have := blk_set HB.out 0 (.slice A1 l.length (c - 1))
  simpa using this

/-- A reader of what is read. -/
theorem read_c (A : Option Addr) (c : Nat) (l : List Int) (w : World) (hr : ReadsInt w .u8 A l.length l) (hc : l.length ≤ c) (hx : ∀ x ∈ l, 0 ≤ x ∧ x < 256) (hl : l.length ≤ 140737488351232) :
    Calls Try.prog 13 #[.slice A l.length c] w fun e w' => e = .returned (.pointer (some ⟨w.heap.size, 0, none⟩)) ∧ Rdr 55 w' w.heap.size l 0 ∧ Below w.heap.size w w' := by
  have HR := Lib.hid hr
  have HC := Lib.hid hc
  have HX := Lib.hid hx
  have HL := Lib.hid hl
  clear hr hc hx hl
  go_enter Try.func13, Try.ntmps13
  go_wp2
  go_ret
  refine ⟨rfl, ⟨A, c, by simpa using heap_alloc_new w _, HC.out, HR.out.below ((Below.refl _ _).alloc (Nat.le_refl _) _), HX.out, HL.out⟩, (Below.refl _ _).alloc (Nat.le_refl _) _⟩
end Go.Proofs.Ytnpiicnhdpldaaa.Lb
