/-
  The walk of the reference's Name (chapter 1). No condition but that the reader's block is one, and that a reader with an error has no bytes.
-/
import Derived.Test.YtnpiicnhdpldaaaRfF
import Derived.Test.YtnpiicnhdpldaaaLbY
namespace Go.Proofs.Ytnpiicnhdpldaaa.Rf
set_option linter.unusedVariables false
set_option linter.unusedSimpArgs false
open Go.RowKit Go.Proofs.YtnpiicnhdpldaaaW.PrintWords Go.Proofs.Ytnpiicnhdpldaaa.PLeb Go.Proofs.Ytnpiicnhdpldaaa.Lb Go.Proofs.Ytnpiicnhdpldaaa.Pure

structure NameR (g : Nat) (w : World) (r : ByteArray × List Int × Int) (e : Ending) (w' : World) : Prop where mk ::
  (out : e = .returned (.string r.1) ∧ Rdr 44 w' g r.2.1 r.2.2 ∧ Turn w w' g)
set_option maxRecDepth 100000 in
theorem name_err (g : Nat) (l : List Int) (y n : Int) (l1 : List Int) (y1 : Int) (w : World) (H : Rdr 44 w g l y) (hy : y = 0 ∨ l = []) (hu : uF 32 l y = (n, l1, y1)) (h0 : 0 ≤ n) (h32 : n < 4294967296) (hn : n = 0) (hl1 : l1 = []) (hy1 : y1 ≠ 0) :
    Calls Try.prog 30 #[.pointer (some ⟨g, 0, none⟩)] w (NameR g w (emptyS, [], y1)) := by
  have hU := U_r g 32 l y w H hy
  rw [hu] at hU
  have HU := Lib.hid hU
  have HH := Lib.hid H
  clear hU H hy hu
  subst hn
  subst hl1
  have HI : Hid (InvB [] y1) := Lib.hid (.inr rfl)
  have hne : (y1 == 0) = false := by simpa using hy1
  obtain ⟨bs, hbs⟩ : ∃ bs : List Int, bs = [] := ⟨[], rfl⟩
  have hv : validG (strOfNums bs) (strOfNums bs).size 0 = true := by subst hbs; rfl
  have HS : Hid ((strOfNums bs).size ≤ 140737488351232) := Lib.hid (by subst hbs; rw [size_strOfNums]; simp)
  have HT : Hid (takeF 0 [] y1 = (bs, [], y1)) := Lib.hid (by unfold takeF; rw [if_neg (by omega), if_neg hy1, hbs])
  clear hy1 hbs
  go_enter Try.func30, Try.ntmps30
  go_wp2_with (first | (go_at_call 22; refine HU.out.mono ?_; intro e w1 hnq; obtain ⟨he, hq, ht1⟩ : e = .returned (.int .u64 0) ∧ Rdr 44 w1 g [] y1 ∧ Turn w w1 g := hnq.out; subst he; clear hnq; have hbd := rdr_len hq; have hc1 := cells44 hq; obtain ⟨A0, c0, hb0, _⟩ := hq.out; have hc0 := cell0 hb0; clear hb0; have HQ := Lib.hid hq; have HT1 := Lib.hid ht1; clear hq ht1) | (go_at_call 28; refine (T_r g _ _ _ _ HQ.out HI.out).mono ?_; intro e w4 hnq; rw [HT.out] at hnq; obtain ⟨A, c, he, hrd, hcap, hq, ht1⟩ : ∃ A c, e = .returned (.slice A bs.length c) ∧ ReadsInt w4 .u8 A bs.length bs ∧ bs.length ≤ c ∧ Rdr 44 w4 g [] y1 ∧ Turn _ w4 g := hnq.out; subst he; clear hnq; have hcv := string_of_reads (P := Try.prog) (src := 25) (dst := 9) (c := c) Try.underlying25 Try.underlying5 Try.underlying9 hrd; have HQ3 := Lib.hid hq; have HT3 := Lib.hid ht1; have hc3 := cells44 hq; clear hq ht1 hrd hcap) | (go_at_call 11; refine (rvalid_c _ HS.out _).mono ?_; rintro e w5 ⟨rfl, hb⟩; have HQ4 := Lib.hid (rdr_below HQ3.out hb); have hc4 := cells44 HQ4.out; have HT4 := Lib.hid (Turn.of_below hb g); clear hb))
  go_ret
  exact ⟨rfl, HQ4.out, (HT1.out.trans HT3.out).trans HT4.out⟩
set_option maxRecDepth 100000 in
theorem name_long (g : Nat) (l : List Int) (y n : Int) (l1 : List Int) (y1 : Int) (w : World) (H : Rdr 44 w g l y) (hy : y = 0 ∨ l = []) (hu : uF 32 l y = (n, l1, y1)) (h0 : 0 ≤ n) (h32 : n < 4294967296) (hy1 : y1 = 0) (hn : (l1.length : Int) < n) :
    Calls Try.prog 30 #[.pointer (some ⟨g, 0, none⟩)] w (NameR g w (emptyS, [], 10)) := by
  have hU := U_r g 32 l y w H hy
  rw [hu] at hU
  have HU := Lib.hid hU
  have HH := Lib.hid H
  clear hU H hy hu
  subst hy1
  have HI : Hid (InvB [] 10) := Lib.hid (.inr rfl)
  obtain ⟨bs, hbs⟩ : ∃ bs : List Int, bs = [] := ⟨[], rfl⟩
  have hv : validG (strOfNums bs) (strOfNums bs).size 0 = true := by subst hbs; rfl
  have HS : Hid ((strOfNums bs).size ≤ 140737488351232) := Lib.hid (by subst hbs; rw [size_strOfNums]; simp)
  have HT : Hid (takeF n [] 10 = (bs, [], 10)) := Lib.hid (by unfold takeF; rw [if_neg (by omega), if_neg (by omega), hbs])
  clear hbs
  go_enter Try.func30, Try.ntmps30
  go_wp2_with (first | (go_at_call 22; refine HU.out.mono ?_; intro e w1 hnq; obtain ⟨he, hq, ht1⟩ : e = .returned (.int .u64 n) ∧ Rdr 44 w1 g l1 0 ∧ Turn w w1 g := hnq.out; subst he; clear hnq; have hbd := rdr_len hq; have hc1 := cells44 hq; obtain ⟨A0, c0, hb0, _⟩ := hq.out; have hc0 := cell0 hb0; clear hb0; have HQ := Lib.hid hq; have HT1 := Lib.hid ht1; clear hq ht1) | (go_at_call 32; refine (fail_10 g _ _ HQ.out).mono ?_; rintro e w3 ⟨rfl, hq, ht⟩; have hc2 := cells44 hq; have HQ2 := Lib.hid hq; have HT2 := Lib.hid ht; clear hq ht) | (go_at_call 28; refine (T_r g _ _ _ _ HQ2.out HI.out).mono ?_; intro e w4 hnq; rw [HT.out] at hnq; obtain ⟨A, c, he, hrd, hcap, hq, ht1⟩ : ∃ A c, e = .returned (.slice A bs.length c) ∧ ReadsInt w4 .u8 A bs.length bs ∧ bs.length ≤ c ∧ Rdr 44 w4 g [] 10 ∧ Turn _ w4 g := hnq.out; subst he; clear hnq; have hcv := string_of_reads (P := Try.prog) (src := 25) (dst := 9) (c := c) Try.underlying25 Try.underlying5 Try.underlying9 hrd; have HQ3 := Lib.hid hq; have HT3 := Lib.hid ht1; have hc3 := cells44 hq; clear hq ht1 hrd hcap) | (go_at_call 11; refine (rvalid_c _ HS.out _).mono ?_; rintro e w5 ⟨rfl, hb⟩; have HQ4 := Lib.hid (rdr_below HQ3.out hb); have hc4 := cells44 HQ4.out; have HT4 := Lib.hid (Turn.of_below hb g); clear hb))
  go_ret
  exact ⟨rfl, HQ4.out, ((HT1.out.trans HT2.out).trans HT3.out).trans HT4.out⟩
set_option maxRecDepth 100000 in
theorem name_some (g : Nat) (l : List Int) (y n : Int) (l1 : List Int) (y1 : Int) (w : World) (H : Rdr 44 w g l y) (hy : y = 0 ∨ l = []) (hu : uF 32 l y = (n, l1, y1)) (h0 : 0 ≤ n) (h32 : n < 4294967296) (hy1 : y1 = 0) (hn : n ≤ (l1.length : Int)) (hL : l1.length ≤ 140737488351232) (hv : validG (strOfNums (l1.take n.toNat)) (strOfNums (l1.take n.toNat)).size 0 = true) :
    Calls Try.prog 30 #[.pointer (some ⟨g, 0, none⟩)] w (NameR g w (strOfNums (l1.take n.toNat), l1.drop n.toNat, 0)) := by
  have hU := U_r g 32 l y w H hy
  rw [hu] at hU
  have HU := Lib.hid hU
  have HH := Lib.hid H
  clear hU H hy hu
  subst hy1
  have HI : Hid (InvB l1 0) := Lib.hid (.inl rfl)
  obtain ⟨bs, hbs⟩ : ∃ bs : List Int, bs = l1.take n.toNat := ⟨_, rfl⟩
  rw [← hbs] at hv
  have HT : Hid (takeF n l1 0 = (bs, l1.drop n.toNat, 0)) := Lib.hid (by unfold takeF; rw [if_neg (by omega), if_pos rfl, if_pos hn, hbs])
  have HS : Hid ((strOfNums bs).size ≤ 140737488351232) := Lib.hid (by rw [size_strOfNums, hbs, List.length_take]; omega)
  have HBS := Lib.hid hbs
  clear hbs hL
  go_enter Try.func30, Try.ntmps30
  go_wp2_with (first | (go_at_call 22; refine HU.out.mono ?_; intro e w1 hnq; obtain ⟨he, hq, ht1⟩ : e = .returned (.int .u64 n) ∧ Rdr 44 w1 g l1 0 ∧ Turn w w1 g := hnq.out; subst he; clear hnq; have hbd := rdr_len hq; have hc1 := cells44 hq; obtain ⟨A0, c0, hb0, _⟩ := hq.out; have hc0 := cell0 hb0; clear hb0; have HQ := Lib.hid hq; have HT1 := Lib.hid ht1; clear hq ht1) | (go_at_call 28; refine (T_r g _ _ _ _ HQ.out HI.out).mono ?_; intro e w4 hnq; rw [HT.out] at hnq; obtain ⟨A, c, he, hrd, hcap, hq, ht1⟩ : ∃ A c, e = .returned (.slice A bs.length c) ∧ ReadsInt w4 .u8 A bs.length bs ∧ bs.length ≤ c ∧ Rdr 44 w4 g (l1.drop n.toNat) 0 ∧ Turn _ w4 g := hnq.out; subst he; clear hnq; have hcv := string_of_reads (P := Try.prog) (src := 25) (dst := 9) (c := c) Try.underlying25 Try.underlying5 Try.underlying9 hrd; have HQ3 := Lib.hid hq; have HT3 := Lib.hid ht1; have hc3 := cells44 hq; clear hq ht1 hrd hcap) | (go_at_call 11; refine (rvalid_c _ HS.out _).mono ?_; rintro e w5 ⟨rfl, hb⟩; have HQ4 := Lib.hid (rdr_below HQ3.out hb); have hc4 := cells44 HQ4.out; have HT4 := Lib.hid (Turn.of_below hb g); clear hb))
  go_ret
  exact ⟨by rw [HBS.out]; rfl, HQ4.out, (HT1.out.trans HT3.out).trans HT4.out⟩
set_option maxRecDepth 100000 in
theorem name_bad (g : Nat) (l : List Int) (y n : Int) (l1 : List Int) (y1 : Int) (w : World) (H : Rdr 44 w g l y) (hy : y = 0 ∨ l = []) (hu : uF 32 l y = (n, l1, y1)) (h0 : 0 ≤ n) (h32 : n < 4294967296) (hy1 : y1 = 0) (hn : n ≤ (l1.length : Int)) (hL : l1.length ≤ 140737488351232) (hv : validG (strOfNums (l1.take n.toNat)) (strOfNums (l1.take n.toNat)).size 0 = false) :
    Calls Try.prog 30 #[.pointer (some ⟨g, 0, none⟩)] w (NameR g w (emptyS, [], 13)) := by
  have hU := U_r g 32 l y w H hy
  rw [hu] at hU
  have HU := Lib.hid hU
  have HH := Lib.hid H
  clear hU H hy hu
  subst hy1
  have HI : Hid (InvB l1 0) := Lib.hid (.inl rfl)
  obtain ⟨bs, hbs⟩ : ∃ bs : List Int, bs = l1.take n.toNat := ⟨_, rfl⟩
  rw [← hbs] at hv
  have HT : Hid (takeF n l1 0 = (bs, l1.drop n.toNat, 0)) := Lib.hid (by unfold takeF; rw [if_neg (by omega), if_pos rfl, if_pos hn, hbs])
  have HS : Hid ((strOfNums bs).size ≤ 140737488351232) := Lib.hid (by rw [size_strOfNums, hbs, List.length_take]; omega)
  have HBS := Lib.hid hbs
  clear hbs hL
  go_enter Try.func30, Try.ntmps30
  go_wp2_with (first | (go_at_call 22; refine HU.out.mono ?_; intro e w1 hnq; obtain ⟨he, hq, ht1⟩ : e = .returned (.int .u64 n) ∧ Rdr 44 w1 g l1 0 ∧ Turn w w1 g := hnq.out; subst he; clear hnq; have hbd := rdr_len hq; have hc1 := cells44 hq; obtain ⟨A0, c0, hb0, _⟩ := hq.out; have hc0 := cell0 hb0; clear hb0; have HQ := Lib.hid hq; have HT1 := Lib.hid ht1; clear hq ht1) | (go_at_call 32; refine (fail_13 g _ _ HQ4.out).mono ?_; rintro e w6 ⟨rfl, hq, ht⟩; have hc5 := cells44 hq; have HQ5 := Lib.hid hq; have HT5 := Lib.hid ht; clear hq ht) | (go_at_call 28; refine (T_r g _ _ _ _ HQ.out HI.out).mono ?_; intro e w4 hnq; rw [HT.out] at hnq; obtain ⟨A, c, he, hrd, hcap, hq, ht1⟩ : ∃ A c, e = .returned (.slice A bs.length c) ∧ ReadsInt w4 .u8 A bs.length bs ∧ bs.length ≤ c ∧ Rdr 44 w4 g (l1.drop n.toNat) 0 ∧ Turn _ w4 g := hnq.out; subst he; clear hnq; have hcv := string_of_reads (P := Try.prog) (src := 25) (dst := 9) (c := c) Try.underlying25 Try.underlying5 Try.underlying9 hrd; have HQ3 := Lib.hid hq; have HT3 := Lib.hid ht1; have hc3 := cells44 hq; clear hq ht1 hrd hcap) | (go_at_call 11; refine (rvalid_c _ HS.out _).mono ?_; rintro e w5 ⟨rfl, hb⟩; have HQ4 := Lib.hid (rdr_below HQ3.out hb); have hc4 := cells44 HQ4.out; have HT4 := Lib.hid (Turn.of_below hb g); clear hb))
  go_ret
  exact ⟨rfl, HQ5.out, ((HT1.out.trans HT3.out).trans HT4.out).trans HT5.out⟩
theorem N_r (g : Nat) (l : List Int) (y : Int) (w : World) (H : Rdr 44 w g l y) (hy : y = 0 ∨ l = []) :
    Calls Try.prog 30 #[.pointer (some ⟨g, 0, none⟩)] w (NameR g w (nameF l y)) := by
  have hi := uF_inv 32 l y
  have hlen := uF_len 32 l y
  have hL := rdr_len H
  rcases hu : uF 32 l y with ⟨n, l1, y1⟩
  rw [hu] at hi hlen
  have hi : 0 ≤ n ∧ InvB l1 y1 ∧ (y1 ≠ 0 → n = 0) ∧ (32 = (32 : Int) → n < 4294967296) := hi
  have hlen : l1.length ≤ l.length := hlen
  by_cases c1 : y1 ≠ 0
  · have e : nameF l y = (emptyS, [], y1) := by unfold nameF; rw [hu]; simp only; rw [if_pos c1]
    rw [e]
    exact name_err g l y n l1 y1 w H hy hu hi.1 (hi.2.2.2 rfl) (hi.2.2.1 c1) (by rcases hi.2.1 with h | h; exact absurd h c1; exact h) c1
  · have c0 : y1 = 0 := by omega
    by_cases c2 : (l1.length : Int) < n
    · have e : nameF l y = (emptyS, [], 10) := by unfold nameF; rw [hu]; simp only; rw [if_neg c1, if_pos c2]
      rw [e]
      exact name_long g l y n l1 y1 w H hy hu hi.1 (hi.2.2.2 rfl) c0 c2
    · by_cases c3 : validG (strOfNums (l1.take n.toNat)) (strOfNums (l1.take n.toNat)).size 0 = true
      · have e : nameF l y = (strOfNums (l1.take n.toNat), l1.drop n.toNat, 0) := by unfold nameF; rw [hu]; simp only; rw [if_neg c1, if_neg c2, if_pos c3]
        rw [e]
        exact name_some g l y n l1 y1 w H hy hu hi.1 (hi.2.2.2 rfl) c0 (by omega) (by omega) c3
      · have e : nameF l y = (emptyS, [], 13) := by unfold nameF; rw [hu]; simp only; rw [if_neg c1, if_neg c2, if_neg c3]
        rw [e]
        exact name_bad g l y n l1 y1 w H hy hu hi.1 (hi.2.2.2 rfl) c0 (by omega) (by omega) (Bool.eq_false_iff.2 c3)
end Go.Proofs.Ytnpiicnhdpldaaa.Rf
