/-
  The walk of the laws' awake (chapter 1: the document's examples come to true), and what a writer of numbers leaves. No condition.
-/
import Derived.Test.YtnpiicnhdpldaaaLbF
import Derived.Test.YtnpiicnhdpldaaaPLebx2
import Derived.Test.YtnpiicnhdpldaaaPLebx3
namespace Go.Proofs.Ytnpiicnhdpldaaa.Lb
set_option linter.unusedVariables false
set_option linter.unusedSimpArgs false
open Go.RowKit Go.Proofs.YtnpiicnhdpldaaaW.PrintWords Go.Proofs.Ytnpiicnhdpldaaa.PLeb

/-- A row of one's own is not a later block. -/
theorem own_turn {w w' : World} {g base : Nat} {v : Value} {r : List Int} (h : w.ownsRow base 5 1 v r.length (nums .u8 r)) (ht : Turn w w' g) (hg : v.ownBlock ≠ some g) : w'.ownsRow base 5 1 v r.length (nums .u8 r) :=
  ht.keep.own h hg (by cases v.ownBlock <;> simp)
theorem own_ne_ge {w : World} {g base : Nat} {v : Value} {r : List Int} (h : w.ownsRow base 5 1 v r.length (nums .u8 r)) (hg : w.heap.size ≤ g) : v.ownBlock ≠ some g := fun e => by
  have := own_lt h g e
  omega
structure RowQ (w : World) (r : List Int) (e : Ending) (w' : World) : Prop where mk ::
  (out : ∃ v, e = .returned v ∧ w'.ownsRow w.heap.size 5 1 v r.length (nums .u8 r) ∧ Below w.heap.size w w')
theorem U_c (k : Nat) (A : Option Addr) (c : Nat) (l : List Int) (n : Int) (r : List Int) (w : World) (hr : ReadsInt w .u8 A l.length l) (hc : l.length ≤ c) (h : leb_U.f k l n = some r) :
    Calls Try.prog 12 #[.slice A l.length c, .int .u64 n] w (RowQ w r) :=
  (leb_U.calls k A c l n r w (Kd.C_of_reads (d := 0) hr) hc h).mono fun _ _ ⟨v, h1, h2, h3⟩ => ⟨v, h1, Kd.own_of_R h2, h3⟩
theorem S_c (k : Nat) (A : Option Addr) (c : Nat) (l : List Int) (n : Int) (r : List Int) (w : World) (hr : ReadsInt w .u8 A l.length l) (hc : l.length ≤ c) (h : leb_S.f k l n = some r) :
    Calls Try.prog 17 #[.slice A l.length c, .int .i64 n] w (RowQ w r) :=
  (leb_S.calls k A c l n r w (Kd.C_of_reads (d := 0) hr) hc h).mono fun _ _ ⟨v, h1, h2, h3⟩ => ⟨v, h1, Kd.own_of_R h2, h3⟩
theorem N_c (k : Nat) (A : Option Addr) (c : Nat) (l : List Int) (n : ByteArray) (r : List Int) (w : World) (hr : ReadsInt w .u8 A l.length l) (hc : l.length ≤ c) (h : leb_Name.f k l n = some r) :
    Calls Try.prog 18 #[.slice A l.length c, .string n] w (RowQ w r) :=
  (leb_Name.calls k A c l n r w (Kd.C_of_reads (d := 0) hr) hc h).mono fun _ _ ⟨v, h1, h2, h3⟩ => ⟨v, h1, Kd.own_of_R h2, h3⟩
/-- A row of one's own, as bytes. -/
theorem row_string {w : World} {base : Nat} {v : Value} {r : List Int} (h : w.ownsRow base 5 1 v r.length (nums .u8 r)) : ∀ w', Below w.heap.size w w' → (convert 25 9 v).run Try.prog w' = .ok (.string (strOfNums r)) w' :=
  fun _ hb => own_string (P := Try.prog) (src := 25) (dst := 9) Try.underlying25 Try.underlying5 Try.underlying9 (pw_own_below h hb)
/-- A literal of bytes: what it reads as. -/
theorem lit_reads (w : World) (xs : List Int) (h : xs.length ≤ 1000) : ReadsInt (w.alloc (.cells (nums .u8 xs).toArray 5)) .u8 (some ⟨w.heap.size, 0, none⟩) xs.length xs := by
  have ho := own_lit w w.heap.size 5 .u8 xs (Nat.le_refl _) (by omega)
  exact own_reads' ho

set_option maxRecDepth 100000 in
theorem awake_c (w : World) : Calls Try.prog 9 #[] w fun e w' => e = .returned (.bool true) ∧ Below w.heap.size w w' := by
  have L1 := Lib.hid (fun w => lit_reads w [7] (by decide))
  have L2 := Lib.hid (fun w => lit_reads w [128, 127, 131, 16] (by decide))
  go_enter Try.func9, Try.ntmps9
  go_wp2_with fail
  refine (U_c 20 _ _ [7] 624485 [7, 229, 142, 38] _ (L1.out w) (by decide) (by decide +kernel)).mono ?_
  intro e w1 hq
  obtain ⟨v1, he, ho1, hb1⟩ := hq.out
  subst he
  clear hq
  have HO1 := Lib.hid ho1
  have HB1 : Hid (Below w.heap.size w w1) := Lib.hid (((Below.refl _ _).alloc (Nat.le_refl _) _).trans (hb1.mono (by simp)))
  clear ho1 hb1
  go_wp2_with fail
  refine (S_c 20 none 0 [] (-123456) [192, 187, 120] w1 (ReadsInt.nil _ _) (by decide) (by decide +kernel)).mono ?_
  intro e w2 hq
  obtain ⟨v2, he, ho2, hb2⟩ := hq.out
  subst he
  clear hq
  have HO2 := Lib.hid ho2
  have HO1' := Lib.hid (pw_own_below HO1.out hb2)
  have HB2 : Hid (Below w.heap.size w w2) := Lib.hid (HB1.out.trans (hb2.mono HB1.out.size))
  clear ho2 hb2
  go_wp2_with fail
  refine (read_c _ _ [128, 127, 131, 16] _ (L2.out w2) (by decide) (by decide) (by decide)).mono ?_
  intro e w3 hq
  obtain ⟨he, hq3, hb3⟩ := hq
  subst he
  have hb23 : Below w2.heap.size w2 w3 := ((Below.refl _ _).alloc (Nat.le_refl _) _).trans (hb3.mono (by simp))
  have HO1'' := Lib.hid (pw_own_below HO1'.out hb23)
  have HO2'' := Lib.hid (pw_own_below HO2.out hb23)
  have hq3' : Rdr 55 w3 (w2.heap.size + 1) [128, 127, 131, 16] 0 := by simpa using hq3
  have HNE1 : Hid (v1.ownBlock ≠ some (w2.heap.size + 1)) := Lib.hid (own_ne_ge HO1'.out (by omega))
  have HNE2 : Hid (v2.ownBlock ≠ some (w2.heap.size + 1)) := Lib.hid (own_ne_ge HO2.out (by omega))
  have HQ3 := Lib.hid hq3'
  have HB3 : Hid (Below w.heap.size w w3) := Lib.hid (HB2.out.trans (hb23.mono HB2.out.size))
  have HG : Hid (w.heap.size ≤ w2.heap.size + 1) := Lib.hid (by have := HB2.out.size; omega)
  clear hq3 hq3' hb3 hb23 HO1 HO1' HO2
  go_wp2_with fail
  refine (s_c (w2.heap.size + 1) 8 _ 0 w3 HQ3.out (.inl rfl)).mono ?_
  intro e w4 hq
  rw [show sF 8 [128, 127, 131, 16] 0 = (-128, [131, 16], 0) from by decide +kernel] at hq
  obtain ⟨he, hq4, ht4⟩ : e = .returned (.int .i64 (-128)) ∧ Rdr 55 w4 (w2.heap.size + 1) [131, 16] 0 ∧ Turn w3 w4 (w2.heap.size + 1) := hq.out
  subst he
  have HQ4 := Lib.hid hq4
  have HT4 := Lib.hid ht4
  clear hq hq4 ht4
  go_wp2_with fail
  refine (u_c (w2.heap.size + 1) 8 _ 0 w4 HQ4.out (.inl rfl)).mono ?_
  intro e w5 hq
  rw [show uF 8 [131, 16] 0 = (0, [], 11) from by decide +kernel] at hq
  obtain ⟨he, hq5, ht5⟩ : e = .returned (.int .u64 0) ∧ Rdr 55 w5 (w2.heap.size + 1) [] 11 ∧ Turn w4 w5 (w2.heap.size + 1) := hq.out
  subst he
  have HQ5 := Lib.hid hq5
  have HT5 := Lib.hid (HT4.out.trans ht5)
  clear hq hq5 ht5
  have hcv1 : (convert 25 9 v1).run Try.prog w5 = .ok (.string ⟨#[7, 229, 142, 38]⟩) w5 := row_string (own_turn HO1''.out HT5.out HNE1.out) w5 (Below.refl _ _)
  have hcv2 : (convert 25 9 v2).run Try.prog w5 = .ok (.string ⟨#[192, 187, 120]⟩) w5 := row_string (own_turn HO2''.out HT5.out HNE2.out) w5 (Below.refl _ _)
  have HB5 : Hid (Below w.heap.size w w5) := Lib.hid (HT5.out.below HB3.out HG.out)
  have VA : ∀ w, Calls Try.prog 10 #[.string ⟨#[195, 169]⟩] w fun e w' => e = .returned (.bool true) ∧ Below w.heap.size w w' := fun w =>
    (valid_w ⟨#[195, 169]⟩ (by decide) w).mono fun e w' hq => by
      rw [show validG ⟨#[195, 169]⟩ (⟨#[195, 169]⟩ : ByteArray).size 0 = true from by decide +kernel] at hq
      obtain ⟨he, pos, rfl⟩ := hq.out
      exact ⟨he, iter_below _ _ _⟩
  have VB : ∀ w, Calls Try.prog 10 #[.string ⟨#[255]⟩] w fun e w' => e = .returned (.bool false) ∧ Below w.heap.size w w' := fun w =>
    (valid_w ⟨#[255]⟩ (by decide) w).mono fun e w' hq => by
      rw [show validG ⟨#[255]⟩ (⟨#[255]⟩ : ByteArray).size 0 = false from by decide +kernel] at hq
      obtain ⟨he, pos, rfl⟩ := hq.out
      exact ⟨he, iter_below _ _ _⟩
  have HVA := Lib.hid VA
  have HVB := Lib.hid VB
  clear VA VB
  go_wp2_with (first | (go_at_call 15; refine (err_k _ _ _ _ HQ5.out).mono ?_; rintro e w6 ⟨rfl, rfl⟩) | (go_at_call 10; ((with_reducible refine (HVA.out _).mono ?_)); rintro e w6 ⟨rfl, hb⟩; have HB6 := Lib.hid (HB5.out.trans (hb.mono HB5.out.size)); clear hb) | (go_at_call 10; ((with_reducible refine (HVB.out _).mono ?_)); rintro e w7 ⟨rfl, hb⟩; have HB7 := Lib.hid (HB6.out.trans (hb.mono HB6.out.size)); clear hb))
  go_ret
  exact ⟨rfl, HB7.out⟩
end Go.Proofs.Ytnpiicnhdpldaaa.Lb
