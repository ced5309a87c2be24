/-
  The plain law of LebTexts: the reference's Valid is what a range over the text meets. For texts of up to 2^47 bytes.
-/
import Derived.Test.YtjecdciabpjgcaaDoorLxV
import Derived.Test.YtjecdciabpjgcaaDoorPLxx2
import Derived.Lib.Strings
namespace Go.Proofs.YtjecdciabpjgcaaDoor.Pure
set_option linter.unusedVariables false
set_option linter.unusedSimpArgs false
open Go.RowKit Go.Proofs.YtjecdciabpjgcaaDoorW.PrintWords Go.Proofs.YtjecdciabpjgcaaDoor.PLx Go.Proofs.YtjecdciabpjgcaaDoor.Lb

theorem w64 {x : Int} (h1 : -9223372036854775808 ≤ x) (h2 : x ≤ 9223372036854775807) : wrap64 x = x := by unfold wrap64; omega

section
variable {s : ByteArray} {k : Nat} {x3 x4 x5 x6 x7 : Int}
theorem l1_go (h : x7 < x5) (h0 : 0 ≤ x3 + x7) (h1 : x3 + x7 < s.size) (hs : s.size ≤ 140737488351232) (hx7 : 0 ≤ x7 ∧ x7 ≤ 4) (hx4 : 0 ≤ x4 ∧ x4 ≤ 1000000) (hd : 128 ≤ bt s (x3 + x7) ∧ bt s (x3 + x7) ≤ 191) :
    bodkinref01_Valid.l1 (k + 1) s x3 x4 x5 x6 x7 = bodkinref01_Valid.l1 k s x3 (x4 * 64 + bt s (x3 + x7) - 128) x5 x6 (x7 + 1) := by
  simp only [bodkinref01_Valid.l1]
  rw [if_pos h, w64 (x := x3 + x7) (by omega) (by omega), if_pos h0, if_pos h1, w64 (x := bt s (x3 + x7)) (by omega) (by omega), if_neg (by omega), if_neg (by omega),
    w64 (x := x4 * 64) (by omega) (by omega), w64 (x := x4 * 64 + bt s (x3 + x7)) (by omega) (by omega), w64 (x := x4 * 64 + bt s (x3 + x7) - 128) (by omega) (by omega), w64 (x := x7 + 1) (by omega) (by omega)]
theorem l1_bad (h : x7 < x5) (h0 : 0 ≤ x3 + x7) (h1 : x3 + x7 < s.size) (hs : s.size ≤ 140737488351232) (hd : ¬ (128 ≤ bt s (x3 + x7) ∧ bt s (x3 + x7) ≤ 191)) :
    bodkinref01_Valid.l1 (k + 1) s x3 x4 x5 x6 x7 = some false := by
  have hr := bt_range s (x3 + x7)
  simp only [bodkinref01_Valid.l1]
  rw [if_pos h, w64 (x := x3 + x7) (by omega) (by omega), if_pos h0, if_pos h1, w64 (x := bt s (x3 + x7)) (by omega) (by omega)]
  by_cases c : bt s (x3 + x7) < 128
  · rw [if_pos c]
  · rw [if_neg c, if_pos (by omega)]
theorem l1_end (h : ¬ x7 < x5) (h0 : 0 ≤ x3 + x5) (h1 : x3 + x5 ≤ s.size) (hs : s.size ≤ 140737488351232) :
    bodkinref01_Valid.l1 (k + 1) s x3 x4 x5 x6 x7 = if x4 < x6 ∨ x4 > 1114111 ∨ (55295 < x4 ∧ x4 < 57344) then some false else bodkinref01_Valid.l0 k s (x3 + x5) := by
  simp only [bodkinref01_Valid.l1]
  rw [if_neg h, w64 (x := x3 + x5) (by omega) (by omega)]
  by_cases c1 : x4 < x6
  · rw [if_pos c1, if_pos (.inl c1)]
  · by_cases c2 : x4 > 1114111
    · rw [if_neg c1, if_pos c2, if_pos (.inr (.inl c2))]
    · by_cases c3 : x4 > 55295
      · by_cases c4 : x4 < 57344
        · rw [if_neg c1, if_neg c2, if_pos c3, if_pos c4, if_pos (.inr (.inr ⟨c3, c4⟩))]
        · rw [if_neg c1, if_neg c2, if_pos c3, if_neg c4, if_neg (by omega)]
      · rw [if_neg c1, if_neg c2, if_neg c3, if_neg (by omega)]
theorem j4_in (h1 : x3 + x5 ≤ s.size) (h0 : 0 ≤ x3 + x5) (hs : s.size ≤ 140737488351232) : bodkinref01_Valid.j4 (k + 1) s x3 x4 x5 x6 = bodkinref01_Valid.l1 k s x3 x4 x5 x6 1 := by
  simp only [bodkinref01_Valid.j4]
  rw [w64 (x := x3 + x5) (by omega) (by omega), if_neg (by omega)]
theorem j4_out (h1 : ¬ x3 + x5 ≤ s.size) (h2 : x3 + x5 ≤ 9223372036854775807) (h0 : 0 ≤ x3 + x5) : bodkinref01_Valid.j4 (k + 1) s x3 x4 x5 x6 = some false := by
  simp only [bodkinref01_Valid.j4]
  rw [w64 (x := x3 + x5) (by omega) (by omega), if_pos (by omega)]
/-- The first byte: which road is taken. -/
theorem l0_one (h0 : 0 ≤ x3) (h1 : x3 < s.size) (hc : bt s x3 < 128) : bodkinref01_Valid.l0 (k + 4) s x3 = bodkinref01_Valid.j4 k s x3 (bt s x3) 1 0 := by
  have hr := bt_range s x3
  simp only [bodkinref01_Valid.l0, bodkinref01_Valid.j1, bodkinref01_Valid.j2, bodkinref01_Valid.j3]
  rw [if_pos h1, if_pos h0, w64 (x := bt s x3) (by omega) (by omega), if_neg (by omega), if_neg (by simp), if_neg (by omega), if_neg (by simp), if_neg (by omega), if_neg (by simp), if_neg (by omega)]
theorem l0_bad (h0 : 0 ≤ x3) (h1 : x3 < s.size) (hc : (128 ≤ bt s x3 ∧ bt s x3 < 192) ∨ 248 ≤ bt s x3) : bodkinref01_Valid.l0 (k + 4) s x3 = some false := by
  have hr := bt_range s x3
  simp only [bodkinref01_Valid.l0, bodkinref01_Valid.j1, bodkinref01_Valid.j2, bodkinref01_Valid.j3]
  rw [if_pos h1, if_pos h0, w64 (x := bt s x3) (by omega) (by omega)]
  rcases hc with hc | hc
  · rw [if_neg (by omega), if_neg (by simp), if_neg (by omega), if_neg (by simp), if_neg (by omega), if_neg (by simp), if_pos (by omega)]
  · rw [if_pos (by omega), if_neg (by simp; omega), if_pos (by omega), if_neg (by simp; omega), if_pos (by omega), if_neg (by simp; omega), if_pos (by omega)]
theorem l0_two (h0 : 0 ≤ x3) (h1 : x3 < s.size) (hc : 192 ≤ bt s x3 ∧ bt s x3 < 224) : bodkinref01_Valid.l0 (k + 4) s x3 = bodkinref01_Valid.j4 k s x3 (bt s x3 - 192) 2 128 := by
  have hr := bt_range s x3
  simp only [bodkinref01_Valid.l0, bodkinref01_Valid.j1, bodkinref01_Valid.j2, bodkinref01_Valid.j3]
  rw [if_pos h1, if_pos h0, w64 (x := bt s x3) (by omega) (by omega), if_neg (by omega), if_neg (by simp), if_neg (by omega), if_neg (by simp), if_pos (by omega), if_pos (by simp; omega), w64 (x := bt s x3 - 192) (by omega) (by omega)]
theorem l0_three (h0 : 0 ≤ x3) (h1 : x3 < s.size) (hc : 224 ≤ bt s x3 ∧ bt s x3 < 240) : bodkinref01_Valid.l0 (k + 3) s x3 = bodkinref01_Valid.j4 k s x3 (bt s x3 - 224) 3 2048 := by
  have hr := bt_range s x3
  simp only [bodkinref01_Valid.l0, bodkinref01_Valid.j1, bodkinref01_Valid.j2]
  rw [if_pos h1, if_pos h0, w64 (x := bt s x3) (by omega) (by omega), if_neg (by omega), if_neg (by simp), if_pos (by omega), if_pos (by simp; omega), w64 (x := bt s x3 - 224) (by omega) (by omega)]
theorem l0_four (h0 : 0 ≤ x3) (h1 : x3 < s.size) (hc : 240 ≤ bt s x3 ∧ bt s x3 < 248) : bodkinref01_Valid.l0 (k + 2) s x3 = bodkinref01_Valid.j4 k s x3 (bt s x3 - 240) 4 65536 := by
  have hr := bt_range s x3
  simp only [bodkinref01_Valid.l0, bodkinref01_Valid.j1]
  rw [if_pos h1, if_pos h0, w64 (x := bt s x3) (by omega) (by omega), if_pos (by omega), if_pos (by simp; omega), w64 (x := bt s x3 - 240) (by omega) (by omega)]
end

/-- A byte of a text, as a number. -/
def byt (s : ByteArray) (i : Nat) : Nat := (s.get! i).toNat
theorem by_lt (s : ByteArray) (i : Nat) : byt s i < 256 := (s.get! i).toNat_lt
theorem bt_by (s : ByteArray) (i : Nat) (h : i < s.size) : bt s (i : Int) = (byt s i : Int) := by
  unfold bt byt
  rw [dif_pos (by simpa using h)]
  simp [ByteArray.get!, getElem!_pos, h]
  rfl
/-- What stands at a place: its width, 0 if it is none. -/
def cls (s : ByteArray) (p : Nat) : Nat :=
  let b0 := byt s p; let b1 := byt s (p + 1); let b2 := byt s (p + 2); let b3 := byt s (p + 3)
  if b0 < 128 then 1 else
  if 192 ≤ b0 ∧ b0 < 224 then (if p + 1 < s.size ∧ 128 ≤ b1 ∧ b1 ≤ 191 ∧ 128 ≤ (b0 - 192) * 64 + (b1 - 128) then 2 else 0) else
  if 224 ≤ b0 ∧ b0 < 240 then (if p + 2 < s.size ∧ 128 ≤ b1 ∧ b1 ≤ 191 ∧ 128 ≤ b2 ∧ b2 ≤ 191 ∧ 2048 ≤ ((b0 - 224) * 64 + (b1 - 128)) * 64 + (b2 - 128) ∧ ¬ (55295 < ((b0 - 224) * 64 + (b1 - 128)) * 64 + (b2 - 128) ∧ ((b0 - 224) * 64 + (b1 - 128)) * 64 + (b2 - 128) < 57344) then 3 else 0) else
  if 240 ≤ b0 ∧ b0 < 248 then (if p + 3 < s.size ∧ 128 ≤ b1 ∧ b1 ≤ 191 ∧ 128 ≤ b2 ∧ b2 ≤ 191 ∧ 128 ≤ b3 ∧ b3 ≤ 191 ∧ 65536 ≤ (((b0 - 240) * 64 + (b1 - 128)) * 64 + (b2 - 128)) * 64 + (b3 - 128) ∧ (((b0 - 240) * 64 + (b1 - 128)) * 64 + (b2 - 128)) * 64 + (b3 - 128) ≤ 1114111 then 4 else 0) else 0

theorem ref_step (s : ByteArray) (p k : Nat) (h : p < s.size) (hs : s.size ≤ 140737488351232) :
    bodkinref01_Valid.l0 (k + 7) s p = if cls s p = 0 then some false else bodkinref01_Valid.l0 (k + 7 - (if cls s p = 1 then 6 else 7)) s ((p + cls s p : Nat) : Int) := by
  have e0 := bt_by s p h
  have r0 := by_lt s p; have r1 := by_lt s (p + 1); have r2 := by_lt s (p + 2); have r3 := by_lt s (p + 3)
  have n1 : ((p + 1 : Nat) : Int) = (p : Int) + 1 := rfl
  have n2 : ((p + 2 : Nat) : Int) = (p : Int) + 2 := rfl
  have n3 : ((p + 3 : Nat) : Int) = (p : Int) + 3 := rfl
  have n4 : ((p + 4 : Nat) : Int) = (p : Int) + 4 := rfl
  have e1 : p + 1 < s.size → bt s ((p : Int) + 1) = (byt s (p + 1) : Int) := fun h => bt_by s (p + 1) h
  have e2 : p + 2 < s.size → bt s ((p : Int) + 2) = (byt s (p + 2) : Int) := fun h => bt_by s (p + 2) h
  have e3 : p + 3 < s.size → bt s ((p : Int) + 3) = (byt s (p + 3) : Int) := fun h => bt_by s (p + 3) h
  generalize hb0 : byt s p = b0 at *
  generalize hb1 : byt s (p + 1) = b1 at *
  generalize hb2 : byt s (p + 2) = b2 at *
  generalize hb3 : byt s (p + 3) = b3 at *
  obtain ⟨C, hC⟩ : ∃ C, cls s p = C := ⟨_, rfl⟩
  rw [hC]
  unfold cls at hC
  simp only [hb0, hb1, hb2, hb3] at hC
  have hcls := hC.symm
  clear hC
  by_cases c1 : b0 < 128
  · rw [if_pos c1] at hcls
    rw [hcls, if_neg (by decide), if_pos rfl]
    rw [show k + 7 = (k + 3) + 4 by omega, l0_one (by omega) (by omega) (by omega), j4_in (by omega) (by omega) hs, show k + 2 = (k + 1) + 1 by omega, l1_end (by omega) (by omega) (by omega) hs, if_neg (by omega), n1]
    rfl
  rw [if_neg c1] at hcls
  by_cases c2 : 192 ≤ b0 ∧ b0 < 224
  · rw [if_pos c2] at hcls
    rw [show k + 7 = (k + 3) + 4 by omega, l0_two (by omega) (by omega) (by omega)]
    by_cases d1 : p + 1 < s.size
    · have e1 := e1 d1
      rw [j4_in (by omega) (by omega) hs]
      by_cases d2 : 128 ≤ b1 ∧ b1 ≤ 191
      · rw [show k + 2 = (k + 1) + 1 by omega, l1_go (by omega) (by omega) (by omega) hs (by omega) (by omega) (by omega), l1_end (by omega) (by omega) (by omega) hs, e0, e1]
        by_cases d3 : 128 ≤ (b0 - 192) * 64 + (b1 - 128)
        · rw [if_pos ⟨d1, d2.1, d2.2, d3⟩] at hcls
          rw [hcls, if_neg (by omega), if_neg (by decide), if_neg (by decide), n2]; rfl
        · rw [if_neg (by omega)] at hcls
          rw [hcls, if_pos (by omega), if_pos rfl]
      · rw [show k + 2 = (k + 1) + 1 by omega, l1_bad (by omega) (by omega) (by omega) hs (by omega)]
        rw [if_neg (by omega)] at hcls
        rw [hcls, if_pos rfl]
    · rw [j4_out (by omega) (by omega) (by omega)]
      rw [if_neg (by omega)] at hcls
      rw [hcls, if_pos rfl]
  rw [if_neg c2] at hcls
  by_cases c3 : 224 ≤ b0 ∧ b0 < 240
  · rw [if_pos c3] at hcls
    rw [show k + 7 = (k + 4) + 3 by omega, l0_three (by omega) (by omega) (by omega)]
    by_cases d1 : p + 2 < s.size
    · have e2 := e2 d1
      have e1 := e1 (by omega)
      rw [j4_in (by omega) (by omega) hs]
      by_cases d2 : 128 ≤ b1 ∧ b1 ≤ 191
      · rw [show k + 3 = (k + 2) + 1 by omega, l1_go (by omega) (by omega) (by omega) hs (by omega) (by omega) (by omega), e0, e1]
        by_cases d3 : 128 ≤ b2 ∧ b2 ≤ 191
        · rw [show k + 2 = (k + 1) + 1 by omega, l1_go (by omega) (by omega) (by omega) hs (by omega) (by omega) (by rw [show (p : Int) + (1 + 1) = (p : Int) + 2 by omega]; omega), l1_end (by omega) (by omega) (by omega) hs,
            show (p : Int) + (1 + 1) = (p : Int) + 2 by omega, e2]
          by_cases d4 : 2048 ≤ ((b0 - 224) * 64 + (b1 - 128)) * 64 + (b2 - 128) ∧ ¬ (55295 < ((b0 - 224) * 64 + (b1 - 128)) * 64 + (b2 - 128) ∧ ((b0 - 224) * 64 + (b1 - 128)) * 64 + (b2 - 128) < 57344)
          · rw [if_pos ⟨d1, d2.1, d2.2, d3.1, d3.2, d4.1, d4.2⟩] at hcls
            rw [hcls, if_neg (by omega), if_neg (by decide), if_neg (by decide), n3]; rfl
          · rw [if_neg (by omega)] at hcls
            rw [hcls, if_pos (by omega), if_pos rfl]
        · rw [show k + 2 = (k + 1) + 1 by omega, l1_bad (by omega) (by omega) (by omega) hs (by rw [show (p : Int) + (1 + 1) = (p : Int) + 2 by omega]; omega)]
          rw [if_neg (by omega)] at hcls
          rw [hcls, if_pos rfl]
      · rw [show k + 3 = (k + 2) + 1 by omega, l1_bad (by omega) (by omega) (by omega) hs (by omega)]
        rw [if_neg (by omega)] at hcls
        rw [hcls, if_pos rfl]
    · rw [j4_out (by omega) (by omega) (by omega)]
      rw [if_neg (by omega)] at hcls
      rw [hcls, if_pos rfl]
  rw [if_neg c3] at hcls
  by_cases c4 : 240 ≤ b0 ∧ b0 < 248
  · rw [if_pos c4] at hcls
    rw [show k + 7 = (k + 5) + 2 by omega, l0_four (by omega) (by omega) (by omega)]
    by_cases d1 : p + 3 < s.size
    · have e3 := e3 d1
      have e2 := e2 (by omega)
      have e1 := e1 (by omega)
      rw [j4_in (by omega) (by omega) hs]
      by_cases d2 : 128 ≤ b1 ∧ b1 ≤ 191
      · rw [show k + 4 = (k + 3) + 1 by omega, l1_go (by omega) (by omega) (by omega) hs (by omega) (by omega) (by omega), e0, e1]
        by_cases d3 : 128 ≤ b2 ∧ b2 ≤ 191
        · rw [show k + 3 = (k + 2) + 1 by omega, l1_go (by omega) (by omega) (by omega) hs (by omega) (by omega) (by rw [show (p : Int) + (1 + 1) = (p : Int) + 2 by omega]; omega),
            show (p : Int) + (1 + 1) = (p : Int) + 2 by omega, e2]
          by_cases d4 : 128 ≤ b3 ∧ b3 ≤ 191
          · rw [show k + 2 = (k + 1) + 1 by omega, l1_go (by omega) (by omega) (by omega) hs (by omega) (by omega) (by rw [show (p : Int) + (1 + 1 + 1) = (p : Int) + 3 by omega]; omega), l1_end (by omega) (by omega) (by omega) hs,
              show (p : Int) + (1 + 1 + 1) = (p : Int) + 3 by omega, e3]
            by_cases d5 : 65536 ≤ (((b0 - 240) * 64 + (b1 - 128)) * 64 + (b2 - 128)) * 64 + (b3 - 128) ∧ (((b0 - 240) * 64 + (b1 - 128)) * 64 + (b2 - 128)) * 64 + (b3 - 128) ≤ 1114111
            · rw [if_pos ⟨d1, d2.1, d2.2, d3.1, d3.2, d4.1, d4.2, d5.1, d5.2⟩] at hcls
              rw [hcls, if_neg (by omega), if_neg (by decide), if_neg (by decide), n4]; rfl
            · rw [if_neg (by omega)] at hcls
              rw [hcls, if_pos (by omega), if_pos rfl]
          · rw [show k + 2 = (k + 1) + 1 by omega, l1_bad (by omega) (by omega) (by omega) hs (by rw [show (p : Int) + (1 + 1 + 1) = (p : Int) + 3 by omega]; omega)]
            rw [if_neg (by omega)] at hcls
            rw [hcls, if_pos rfl]
        · rw [show k + 3 = (k + 2) + 1 by omega, l1_bad (by omega) (by omega) (by omega) hs (by rw [show (p : Int) + (1 + 1) = (p : Int) + 2 by omega]; omega)]
          rw [if_neg (by omega)] at hcls
          rw [hcls, if_pos rfl]
      · rw [show k + 4 = (k + 3) + 1 by omega, l1_bad (by omega) (by omega) (by omega) hs (by omega)]
        rw [if_neg (by omega)] at hcls
        rw [hcls, if_pos rfl]
    · rw [j4_out (by omega) (by omega) (by omega)]
      rw [if_neg (by omega)] at hcls
      rw [hcls, if_pos rfl]
  rw [if_neg c4] at hcls
  rw [show k + 7 = (k + 3) + 4 by omega, l0_bad (by omega) (by omega) (by omega), hcls, if_pos rfl]

/-- Go's own decoding, told of bytes. -/
def decB (size p b0 b1 b2 b3 : Nat) : Nat × Nat :=
  if b0 < 128 then (b0, 1)
  else if (b0 / 32 == 6 && (decide (p + 1 < size) && b1 / 64 == 2)) = true then (if (b0 % 32) * 64 + b1 % 64 ≥ 128 then ((b0 % 32) * 64 + b1 % 64, 2) else (65533, 1))
  else if (b0 / 16 == 14 && (decide (p + 1 < size) && b1 / 64 == 2) && (decide (p + 2 < size) && b2 / 64 == 2)) = true then
    (if (decide ((b0 % 16) * 4096 + (b1 % 64) * 64 + b2 % 64 ≥ 2048) && Utf8.valid (((b0 % 16) * 4096 + (b1 % 64) * 64 + b2 % 64 : Nat) : Int)) = true then ((b0 % 16) * 4096 + (b1 % 64) * 64 + b2 % 64, 3) else (65533, 1))
  else if (b0 / 8 == 30 && (decide (p + 1 < size) && b1 / 64 == 2) && (decide (p + 2 < size) && b2 / 64 == 2) && (decide (p + 3 < size) && b3 / 64 == 2)) = true then
    (if (decide ((b0 % 8) * 262144 + (b1 % 64) * 4096 + (b2 % 64) * 64 + b3 % 64 ≥ 65536) && Utf8.valid (((b0 % 8) * 262144 + (b1 % 64) * 4096 + (b2 % 64) * 64 + b3 % 64 : Nat) : Int)) = true then ((b0 % 8) * 262144 + (b1 % 64) * 4096 + (b2 % 64) * 64 + b3 % 64, 4) else (65533, 1))
  else (65533, 1)
theorem decode_decB (s : ByteArray) (p : Nat) : Utf8.decode s p = decB s.size p (byt s p) (byt s (p + 1)) (byt s (p + 2)) (byt s (p + 3)) := rfl
theorem valid_iff (n : Nat) : Utf8.valid (n : Int) = decide (n < 55296 ∨ (57344 ≤ n ∧ n ≤ 1114111)) := by
  unfold Utf8.valid
  rw [Bool.eq_iff_iff]
  simp
  omega
theorem toList_data (s : ByteArray) : s.toList = s.data.toList := ByteArray.toList_eq s
theorem ext3 (s : ByteArray) (p : Nat) (h : p + 3 ≤ s.size) : ((s.extract p (p + 3)).toList == [239, 191, 189]) = decide (byt s p = 239 ∧ byt s (p + 1) = 191 ∧ byt s (p + 2) = 189) := by
  have hl : s.data.toList.length = s.size := data_length s
  have g : ∀ i (hi : i < s.size), s.get! i = s.data.toList[i]'(by omega) := fun i hi => by
    simp [ByteArray.get!, getElem!_pos, hi]
  rw [toList_data, Lib.extract_data, show p + 3 - p = 3 by omega]
  have e : (s.data.toList.drop p).take 3 = [s.get! p, s.get! (p + 1), s.get! (p + 2)] := by
    rw [g p (by omega), g (p + 1) (by omega), g (p + 2) (by omega)]
    apply List.ext_getElem
    · simp; omega
    · intro i h1 h2
      have : i = 0 ∨ i = 1 ∨ i = 2 := by simp at h2; omega
      rcases this with rfl | rfl | rfl <;> simp
  rw [e]
  unfold byt
  have t : ∀ a b : UInt8, (a = b) ↔ a.toNat = b.toNat := fun a b => ⟨fun h => by rw [h], fun h => UInt8.toNat_inj.1 h⟩
  rw [Bool.eq_iff_iff]
  simp [t]
def clsB (size p b0 b1 b2 b3 : Nat) : Nat :=
  if b0 < 128 then 1 else
  if 192 ≤ b0 ∧ b0 < 224 then (if p + 1 < size ∧ 128 ≤ b1 ∧ b1 ≤ 191 ∧ 128 ≤ (b0 - 192) * 64 + (b1 - 128) then 2 else 0) else
  if 224 ≤ b0 ∧ b0 < 240 then (if p + 2 < size ∧ 128 ≤ b1 ∧ b1 ≤ 191 ∧ 128 ≤ b2 ∧ b2 ≤ 191 ∧ 2048 ≤ ((b0 - 224) * 64 + (b1 - 128)) * 64 + (b2 - 128) ∧ ¬ (55295 < ((b0 - 224) * 64 + (b1 - 128)) * 64 + (b2 - 128) ∧ ((b0 - 224) * 64 + (b1 - 128)) * 64 + (b2 - 128) < 57344) then 3 else 0) else
  if 240 ≤ b0 ∧ b0 < 248 then (if p + 3 < size ∧ 128 ≤ b1 ∧ b1 ≤ 191 ∧ 128 ≤ b2 ∧ b2 ≤ 191 ∧ 128 ≤ b3 ∧ b3 ≤ 191 ∧ 65536 ≤ (((b0 - 240) * 64 + (b1 - 128)) * 64 + (b2 - 128)) * 64 + (b3 - 128) ∧ (((b0 - 240) * 64 + (b1 - 128)) * 64 + (b2 - 128)) * 64 + (b3 - 128) ≤ 1114111 then 4 else 0) else 0
theorem cls_clsB (s : ByteArray) (p : Nat) : cls s p = clsB s.size p (byt s p) (byt s (p + 1)) (byt s (p + 2)) (byt s (p + 3)) := rfl

/-- The two tell the same: where the one is 0, the other is the error, at one byte; elsewhere it is no error (or it is written so), and as wide. -/
theorem decB_clsB (size p b0 b1 b2 b3 : Nat) (r0 : b0 < 256) (r1 : b1 < 256) (r2 : b2 < 256) (r3 : b3 < 256) :
    (clsB size p b0 b1 b2 b3 = 0 → decB size p b0 b1 b2 b3 = (65533, 1) ∧ ¬ (p + 2 < size ∧ b0 = 239 ∧ b1 = 191 ∧ b2 = 189)) ∧
    (clsB size p b0 b1 b2 b3 ≠ 0 → (decB size p b0 b1 b2 b3).2 = clsB size p b0 b1 b2 b3 ∧ ((decB size p b0 b1 b2 b3).1 = 65533 → p + 2 < size ∧ b0 = 239 ∧ b1 = 191 ∧ b2 = 189)) := by
  have m1 : b1 / 64 = 2 ↔ 128 ≤ b1 ∧ b1 ≤ 191 := by omega
  have m2 : b2 / 64 = 2 ↔ 128 ≤ b2 ∧ b2 ≤ 191 := by omega
  have m3 : b3 / 64 = 2 ↔ 128 ≤ b3 ∧ b3 ≤ 191 := by omega
  unfold clsB decB
  by_cases c1 : b0 < 128
  · rw [if_pos c1, if_pos c1]
    exact ⟨fun h => by omega, fun _ => ⟨rfl, fun h => by simp only at h; omega⟩⟩
  rw [if_neg c1, if_neg c1]
  by_cases c2 : 192 ≤ b0 ∧ b0 < 224
  · rw [if_pos c2]
    have q : b0 / 32 = 6 := by omega
    have q2 : b0 / 16 ≠ 14 := by omega
    have q3 : b0 / 8 ≠ 30 := by omega
    by_cases d : p + 1 < size ∧ 128 ≤ b1 ∧ b1 ≤ 191
    · rw [if_pos (c := (b0 / 32 == 6 && (decide (p + 1 < size) && b1 / 64 == 2)) = true) (by simp [q, d.1, m1]; omega)]
      by_cases e : 128 ≤ (b0 - 192) * 64 + (b1 - 128)
      · rw [if_pos ⟨d.1, d.2.1, d.2.2, e⟩, if_pos (by omega)]
        exact ⟨fun h => by omega, fun _ => ⟨rfl, fun h => by simp only at h; omega⟩⟩
      · rw [if_neg (by omega), if_neg (by omega)]
        exact ⟨fun _ => ⟨rfl, by omega⟩, fun h => absurd rfl h⟩
    · rw [if_neg (by omega), if_neg (c := (b0 / 32 == 6 && (decide (p + 1 < size) && b1 / 64 == 2)) = true) (by simp [q, m1]; omega), if_neg (by simp [q2]), if_neg (by simp [q3])]
      exact ⟨fun _ => ⟨rfl, by omega⟩, fun h => absurd rfl h⟩
  rw [if_neg c2]
  have q : b0 / 32 ≠ 6 := by omega
  rw [if_neg (c := (b0 / 32 == 6 && (decide (p + 1 < size) && b1 / 64 == 2)) = true) (by simp [q])]
  by_cases c3 : 224 ≤ b0 ∧ b0 < 240
  · rw [if_pos c3]
    have q2 : b0 / 16 = 14 := by omega
    have q3 : b0 / 8 ≠ 30 := by omega
    by_cases d : p + 2 < size ∧ (128 ≤ b1 ∧ b1 ≤ 191) ∧ (128 ≤ b2 ∧ b2 ≤ 191)
    · rw [if_pos (c := (b0 / 16 == 14 && (decide (p + 1 < size) && b1 / 64 == 2) && (decide (p + 2 < size) && b2 / 64 == 2)) = true) (by simp [q2, d.1, m1.2 d.2.1, m2.2 d.2.2]; omega), valid_iff]
      by_cases e : 2048 ≤ ((b0 - 224) * 64 + (b1 - 128)) * 64 + (b2 - 128) ∧ ¬ (55295 < ((b0 - 224) * 64 + (b1 - 128)) * 64 + (b2 - 128) ∧ ((b0 - 224) * 64 + (b1 - 128)) * 64 + (b2 - 128) < 57344)
      · rw [if_pos ⟨d.1, d.2.1.1, d.2.1.2, d.2.2.1, d.2.2.2, e.1, e.2⟩, if_pos (by simp; omega)]
        exact ⟨fun h => by omega, fun _ => ⟨rfl, fun h => by simp only at h; omega⟩⟩
      · rw [if_neg (by omega), if_neg (by simp; omega)]
        exact ⟨fun _ => ⟨rfl, by omega⟩, fun h => absurd rfl h⟩
    · rw [if_neg (by omega), if_neg (c := (b0 / 16 == 14 && (decide (p + 1 < size) && b1 / 64 == 2) && (decide (p + 2 < size) && b2 / 64 == 2)) = true) (by simp [q2, m1, m2]; omega), if_neg (by simp [q3])]
      exact ⟨fun _ => ⟨rfl, by omega⟩, fun h => absurd rfl h⟩
  rw [if_neg c3]
  have q2 : b0 / 16 ≠ 14 := by omega
  rw [if_neg (c := (b0 / 16 == 14 && (decide (p + 1 < size) && b1 / 64 == 2) && (decide (p + 2 < size) && b2 / 64 == 2)) = true) (by simp [q2])]
  by_cases c4 : 240 ≤ b0 ∧ b0 < 248
  · rw [if_pos c4]
    have q3 : b0 / 8 = 30 := by omega
    by_cases d : p + 3 < size ∧ (128 ≤ b1 ∧ b1 ≤ 191) ∧ (128 ≤ b2 ∧ b2 ≤ 191) ∧ (128 ≤ b3 ∧ b3 ≤ 191)
    · rw [if_pos (c := (b0 / 8 == 30 && (decide (p + 1 < size) && b1 / 64 == 2) && (decide (p + 2 < size) && b2 / 64 == 2) && (decide (p + 3 < size) && b3 / 64 == 2)) = true) (by simp [q3, d.1, m1.2 d.2.1, m2.2 d.2.2.1, m3.2 d.2.2.2]; omega), valid_iff]
      by_cases e : 65536 ≤ (((b0 - 240) * 64 + (b1 - 128)) * 64 + (b2 - 128)) * 64 + (b3 - 128) ∧ (((b0 - 240) * 64 + (b1 - 128)) * 64 + (b2 - 128)) * 64 + (b3 - 128) ≤ 1114111
      · rw [if_pos ⟨d.1, d.2.1.1, d.2.1.2, d.2.2.1.1, d.2.2.1.2, d.2.2.2.1, d.2.2.2.2, e.1, e.2⟩, if_pos (by simp; omega)]
        exact ⟨fun h => by omega, fun _ => ⟨rfl, fun h => by simp only at h; omega⟩⟩
      · rw [if_neg (by omega), if_neg (by simp; omega)]
        exact ⟨fun _ => ⟨rfl, by omega⟩, fun h => absurd rfl h⟩
    · rw [if_neg (by omega), if_neg (by simp [q3, m1, m2, m3]; omega)]
      exact ⟨fun _ => ⟨rfl, by omega⟩, fun h => absurd rfl h⟩
  rw [if_neg c4, if_neg (by simp; omega)]
  exact ⟨fun _ => ⟨rfl, by omega⟩, fun h => absurd rfl h⟩

/-- What a range over the text meets at a place. -/
theorem dec_cls (s : ByteArray) (p : Nat) (h : p < s.size) : badAt s p = decide (cls s p = 0) ∧ (cls s p ≠ 0 → (Utf8.decode s p).2 = cls s p) := by
  have key := decB_clsB s.size p (byt s p) (byt s (p + 1)) (byt s (p + 2)) (byt s (p + 3)) (by_lt _ _) (by_lt _ _) (by_lt _ _) (by_lt _ _)
  rw [← decode_decB, ← cls_clsB] at key
  have hext : p + 3 ≤ s.size → _ := ext3 s p
  unfold badAt
  by_cases c : cls s p = 0
  · obtain ⟨e1, e2⟩ := key.1 c
    refine ⟨?_, fun h => absurd c h⟩
    rw [e1, decide_eq_true c]
    by_cases hp : p + 3 ≤ s.size
    · rw [hext hp, decide_eq_false (by omega)]
      simp
      try omega
    · rw [decide_eq_true (show (s.size : Int) - p < 3 by omega)]
      rfl
  · obtain ⟨e1, e2⟩ := key.2 c
    refine ⟨?_, fun _ => e1⟩
    rw [decide_eq_false c]
    by_cases hv : (Utf8.decode s p).1 = 65533
    · obtain ⟨f1, f2⟩ := e2 hv
      rw [hext (by omega), decide_eq_true f2, decide_eq_false (show ¬ (s.size : Int) - p < 3 by omega)]
      simp
    · have : ((((Utf8.decode s p).1 : Nat) : Int) == 65533) = false := by simp; omega
      rw [this]; rfl

theorem ref_valid (s : ByteArray) (hs : s.size ≤ 140737488351232) : ∀ (d p b k : Nat), s.size - p ≤ d → s.size ≤ p + b → p ≤ s.size → 7 * d + 7 ≤ k → bodkinref01_Valid.l0 k s p = some (validG s b p) := by
  intro d
  induction d with
  | zero =>
    intro p b k h1 h2 h3 h4
    obtain ⟨k, rfl⟩ : ∃ m, k = m + 1 := ⟨k - 1, by omega⟩
    rw [valid_end s b p (by omega)]
    simp only [bodkinref01_Valid.l0]
    rw [if_neg (by omega)]
  | succ d ih =>
    intro p b k h1 h2 h3 h4
    by_cases hp : p < s.size
    · obtain ⟨k, rfl⟩ : ∃ m, k = m + 7 := ⟨k - 7, by omega⟩
      obtain ⟨b, rfl⟩ : ∃ m, b = m + 1 := ⟨b - 1, by omega⟩
      obtain ⟨e1, e2⟩ := dec_cls s p hp
      rw [ref_step s p k hp hs]
      unfold validG
      rw [if_pos hp, e1]
      by_cases c : cls s p = 0
      · rw [if_pos c, if_pos (by simp [c])]
      · rw [if_neg c, if_neg (c := decide (cls s p = 0) = true) (by simp [c]), e2 c]
        have hw : p + cls s p ≤ s.size := by
          have := cls_clsB s p
          unfold clsB at this
          by_cases k1 : byt s p < 128
          · rw [if_pos k1] at this; omega
          rw [if_neg k1] at this
          split at this
          · split at this <;> omega
          · split at this
            · split at this <;> omega
            · split at this
              · split at this <;> omega
              · omega
        refine ih (p + cls s p) b _ (by omega) (by omega) hw ?_
        split <;> omega
    · obtain ⟨k, rfl⟩ : ∃ m, k = m + 1 := ⟨k - 1, by omega⟩
      rw [valid_end s b p hp]
      simp only [bodkinref01_Valid.l0]
      rw [if_neg (by omega)]
theorem refValid_f (s : ByteArray) (hs : s.size ≤ 140737488351232) (k : Nat) (hk : 7 * s.size + 7 ≤ k) : bodkinref01_Valid.f k s = some (validG s s.size 0) :=
  ref_valid s hs s.size 0 s.size k (by omega) (by omega) (by omega) hk
end Go.Proofs.YtjecdciabpjgcaaDoor.Pure
