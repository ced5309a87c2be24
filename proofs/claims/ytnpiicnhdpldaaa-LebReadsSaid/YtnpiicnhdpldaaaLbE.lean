/-
  The walks of the reader's Take and Name (leb). No condition but that the reader's block is one, and that a reader with an error has no bytes.
-/
import Derived.Test.YtnpiicnhdpldaaaLbD
import Derived.Test.YtnpiicnhdpldaaaLbV
namespace Go.Proofs.Ytnpiicnhdpldaaa.Lb
set_option linter.unusedVariables false
set_option linter.unusedSimpArgs false
open Go.RowKit Go.Proofs.YtnpiicnhdpldaaaW.PrintWords

/-- The next bytes: they, what is left, the error. -/
def takeF (n : Int) (l : List Int) (y : Int) : List Int × List Int × Int :=
  if n < 0 then ([], [], argE y) else if y = 0 then (if n ≤ l.length then (l.take n.toNat, l.drop n.toNat, 0) else ([], [], 10)) else ([], [], y)
structure TakeQ (g : Nat) (w : World) (r : List Int × List Int × Int) (e : Ending) (w' : World) : Prop where mk ::
  (out : ∃ v, e = .returned v ∧ w'.ownsRow w.heap.size 5 1 v r.1.length (nums .u8 r.1) ∧ Rdr 55 w' g r.2.1 r.2.2 ∧ Turn w w' g)
theorem TakeQ.none {g : Nat} {w w' : World} {l : List Int} {y : Int} (hq : Rdr 55 w' g l y) (ht : Turn w w' g) : TakeQ g w ([], l, y) (.returned (.slice .none 0 0)) w' :=
  ⟨_, rfl, own_nil _ _ _ _, hq, ht⟩

theorem fail_10 (g : Nat) (l : List Int) (w : World) (H : Rdr 55 w g l 0) :
    Calls Try.prog 31 #[.pointer (some ⟨g, 0, none⟩), .int .i64 10] w fun e w' => e = .returned (.tuple #[]) ∧ Rdr 55 w' g [] 10 ∧ Turn w w' g := fail_r g l 0 10 w H
theorem fail_arg (g : Nat) (l : List Int) (y : Int) (w : World) (H : Rdr 55 w g l y) (hy : y = 0 ∨ l = []) :
    Calls Try.prog 31 #[.pointer (some ⟨g, 0, none⟩), .int .i64 1] w fun e w' => e = .returned (.tuple #[]) ∧ Rdr 55 w' g [] (argE y) ∧ Turn w w' g := by
  by_cases h0 : y = 0
  · subst h0; exact fail_1 g l w H
  · rw [show argE y = y from if_neg h0]
    obtain rfl : l = [] := by rcases hy with h | h; exact absurd h h0; exact h
    exact fail_bad g y 1 w h0 H

theorem take_neg (g : Nat) (n : Int) (l : List Int) (y : Int) (w : World) (H : Rdr 55 w g l y) (hy : y = 0 ∨ l = []) (hn : n < 0) :
    Calls Try.prog 27 #[.pointer (some ⟨g, 0, none⟩), .int .i64 n] w (TakeQ g w (takeF n l y)) := by
  rw [show takeF n l y = ([], [], argE y) from if_pos hn]
  have HH := Lib.hid H
  have HY := Lib.hid hy
  clear H hy
  go_enter Try.func27, Try.ntmps27
  go_wp2_with (go_at_call 31; refine (fail_arg g _ _ _ HH.out HY.out).mono ?_; rintro e w3 ⟨rfl, hq, ht⟩; have HQ2 := Lib.hid hq; have HT2 := Lib.hid ht; clear hq ht)
  go_ret
  exact TakeQ.none HQ2.out HT2.out
theorem take_err (g : Nat) (n : Int) (y : Int) (w : World) (H : Rdr 55 w g [] y) (hy : y ≠ 0) (hn : 0 ≤ n) :
    Calls Try.prog 27 #[.pointer (some ⟨g, 0, none⟩), .int .i64 n] w (TakeQ g w (takeF n [] y)) := by
  rw [show takeF n [] y = ([], [], y) from by unfold takeF; rw [if_neg (by omega), if_neg hy]]
  have HH := Lib.hid H
  have HY := Lib.hid hy
  have hne : (y != 0) = true := by simpa using hy
  clear H hy
  by_cases h0 : 0 < n
  · go_enter Try.func27, Try.ntmps27
    go_wp2_with (first | (go_at_call 16; refine (left_r g [] _ _ HH.out).mono ?_; rintro e w3 ⟨rfl, rfl⟩) | (go_at_call 15; refine (err_r g _ _ _ HH.out).mono ?_; rintro e w3 ⟨rfl, rfl⟩) | (go_at_call 31; refine (fail_bad g _ _ _ HY.out HH.out).mono ?_; rintro e w3 ⟨rfl, hq, ht⟩; have HQ2 := Lib.hid hq; have HT2 := Lib.hid ht; clear hq ht))
    go_ret
    exact TakeQ.none HQ2.out HT2.out
  · obtain rfl : n = 0 := by omega
    go_enter Try.func27, Try.ntmps27
    go_wp2_with (first | (go_at_call 16; refine (left_r g [] _ _ HH.out).mono ?_; rintro e w3 ⟨rfl, rfl⟩) | (go_at_call 15; refine (err_r g _ _ _ HH.out).mono ?_; rintro e w3 ⟨rfl, rfl⟩) | (go_at_call 31; refine (fail_bad g _ _ _ HY.out HH.out).mono ?_; rintro e w3 ⟨rfl, hq, ht⟩; have HQ2 := Lib.hid hq; have HT2 := Lib.hid ht; clear hq ht))
    go_ret
    exact TakeQ.none HQ2.out HT2.out
theorem take_short (g : Nat) (n : Int) (l : List Int) (w : World) (H : Rdr 55 w g l 0) (hn : 0 ≤ n) (hl : (l.length : Int) < n) :
    Calls Try.prog 27 #[.pointer (some ⟨g, 0, none⟩), .int .i64 n] w (TakeQ g w (takeF n l 0)) := by
  rw [show takeF n l 0 = ([], [], 10) from by unfold takeF; rw [if_neg (by omega), if_pos rfl, if_neg (by omega)]]
  have HH := Lib.hid H
  clear H
  go_enter Try.func27, Try.ntmps27
  go_wp2_with (first | (go_at_call 16; refine (left_r g _ _ _ HH.out).mono ?_; rintro e w3 ⟨rfl, rfl⟩) | (go_at_call 15; refine (err_r g _ _ _ HH.out).mono ?_; rintro e w3 ⟨rfl, rfl⟩) | (go_at_call 31; refine (fail_10 g _ _ HH.out).mono ?_; rintro e w3 ⟨rfl, hq, ht⟩; have HQ2 := Lib.hid hq; have HT2 := Lib.hid ht; clear hq ht))
  go_ret
  exact TakeQ.none HQ2.out HT2.out

theorem err_k (g : Nat) (l : List Int) (e : Int) (w : World) (H : Rdr 55 w g l e) :
    Calls Try.prog 15 #[.pointer (some ⟨g, 0, none⟩)] w fun en w' => en = .returned (.int .i64 e) ∧ w = w' := (err_r g l e w H).mono fun _ _ h => ⟨h.1, h.2.symm⟩
theorem left_k (g : Nat) (l : List Int) (e : Int) (w : World) (H : Rdr 55 w g l e) :
    Calls Try.prog 16 #[.pointer (some ⟨g, 0, none⟩)] w fun en w' => en = .returned (.int .i64 l.length) ∧ w = w' := (left_r g l e w H).mono fun _ _ h => ⟨h.1, h.2.symm⟩
theorem take_some (g m : Nat) (l : List Int) (w : World) (H : Rdr 55 w g l 0) (hl : m ≤ l.length) :
    Calls Try.prog 27 #[.pointer (some ⟨g, 0, none⟩), .int .i64 (m : Int)] w (TakeQ g w (takeF m l 0)) := by
  rw [show takeF m l 0 = (l.take m, l.drop m, 0) from by unfold takeF; rw [if_neg (by omega), if_pos rfl, if_pos (by omega)]; rfl]
  obtain ⟨A, c, hb, hc, hr, hx, hbd⟩ := H.out
  obtain ⟨i0, hi, hz0, hz1, hz2⟩ := info_parts PLeb.info5
  have hlt : (l.take m).length = m := by rw [List.length_take]; omega
  have hld : (l.drop m).length = l.length - m := List.length_drop
  have htk : ∀ W : World, (Instr.slice 25 (.slice A l.length c) none (some (.int .i64 (m : Int))) none).run Try.prog W = .ok (.slice A m c) W := by
    intro W
    have := (print_take_int (P := Try.prog) (k := .u8) 25 5 Try.underlying25 hi hz1 A c l (m : Int) (by omega) (by omega) hc).1 W
    rw [this, Int.toNat_natCast, hlt]
  have hrt : ReadsInt w .u8 A m (l.take m) := by
    have := (print_take_int (P := Try.prog) (k := .u8) 25 5 Try.underlying25 hi hz1 A c l (m : Int) (by omega) (by omega) hc).2.1 w hr
    rwa [Int.toNat_natCast, hlt] at this
  obtain ⟨A1, hcu, hrd, hc1⟩ := print_cut_int (P := Try.prog) (k := .u8) 25 5 Try.underlying25 hi hz1 A c l (m : Int) (by omega) (by omega) hc
  have hdr : ∀ W : World, (Instr.slice 25 (.slice A l.length c) (some (.int .i64 (m : Int))) none none).run Try.prog W = .ok (.slice A1 (l.length - m) (c - m)) W := by
    intro W
    have := hcu W
    rw [this, Int.toNat_natCast, hld]
  have HRD : Hid (ReadsInt w .u8 A1 (l.drop m).length (l.drop m)) := Lib.hid (by have := hrd w hr; rwa [Int.toNat_natCast] at this)
  have HC1 : Hid ((l.drop m).length ≤ c - m) := Lib.hid (by rwa [Int.toNat_natCast] at hc1)
  have HRT := Lib.hid hrt
  have HLT := Lib.hid hlt
  have HLD := Lib.hid hld
  have HB := Lib.hid hb
  have HH := Lib.hid H
  have HX := Lib.hid hx
  have h0 := cell0 hb
  have f0 := blk_frozen hb 0
  clear hcu hrd hc1 hrt hlt hld hb H hr hx hi hz0 hz1 hz2 hc
  have HBD : Hid ((([] : List Int).length + m) * 1 ≤ 140737488355328) := Lib.hid (by simp; omega)
  have HBL2 : Hid (l.length ≤ 140737488351232) := Lib.hid hbd
  have HGL : Hid (g < w.heap.size) := Lib.hid (blk_lt HB.out)
  clear hbd
  go_enter Try.func27, Try.ntmps27
  go_wp2_with (first | (go_at_call 16; refine (left_k g _ _ _ HH.out).mono ?_; rintro e w3 ⟨rfl, rfl⟩) | (go_at_call 15; refine (err_k g _ _ _ HH.out).mono ?_; rintro e w3 ⟨rfl, rfl⟩) | (at_builtin; refine print_append_row (w0 := w) w.heap.size rfl (.const (.slice none 0 0)) (.tmp 28) 25 5 .u8 1 rfl Try.underlying25 PLeb.info5 (by decide) (.slice none 0 0) [] (l.take m) A m c rfl rfl (own_nil _ _ _ _) HRT.out (Below.refl _ _) (Nat.le_refl _) HBD.out ?_; intro v1 w1 hown hbl hg hat; have hb1 := (hbl.block g HGL.out).trans HB.out; have h01 := cell0 hb1; have f01 := blk_frozen hb1 0; have HB1 := Lib.hid hb1; have HRD1 := Lib.hid (HRD.out.below hbl); have HBL := Lib.hid hbl; have HO := Lib.hid hown; clear hb1 hbl hown hg hat h0 f0))
  go_ret
  refine ⟨_, rfl, own_setCell HO.out (fun e => ?_) _, ⟨A1, c - m, ?_, HC1.out, reads_turn HB1.out HRD1.out (Turn.set _ _ _ _), fun z hz => HX.out z (List.mem_of_mem_drop hz), ?_⟩, (Turn.of_below HBL.out g).trans (Turn.set _ _ _ _)⟩
  · have h1 := own_base HO.out g e.symm
    have h2 := HGL.out
    omega
  · have := blk_set HB1.out 0 (.slice A1 (l.length - m) (c - m))
    rw [HLD.out]
    simpa using this
  · simp only [HLD.out]
    have := HBL2.out
    omega

theorem take_c (g : Nat) (n : Int) (l : List Int) (y : Int) (w : World) (H : Rdr 55 w g l y) (hy : y = 0 ∨ l = []) :
    Calls Try.prog 27 #[.pointer (some ⟨g, 0, none⟩), .int .i64 n] w (TakeQ g w (takeF n l y)) := by
  by_cases hn : n < 0
  · exact take_neg g n l y w H hy hn
  · by_cases h0 : y = 0
    · subst h0
      by_cases hl : n ≤ l.length
      · obtain ⟨m, rfl⟩ := Int.eq_ofNat_of_zero_le (show 0 ≤ n by omega)
        exact take_some g m l w H (by omega)
      · exact take_short g n l w H (by omega) (by omega)
    · obtain rfl : l = [] := by rcases hy with h | h; exact absurd h h0; exact h
      exact take_err g n y w H h0 (by omega)
end Go.Proofs.Ytnpiicnhdpldaaa.Lb
