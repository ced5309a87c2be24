/-
  The walk of the reader's Name (leb). No condition but that the reader's block is one, and that a reader with an error has no bytes.
-/
import Derived.Test.YtnpiicnhdpldaaaLbE
import Derived.OpenShut
namespace Go.Proofs.Ytnpiicnhdpldaaa.Lb
set_option linter.unusedVariables false
set_option linter.unusedSimpArgs false
open Go.RowKit Go.Proofs.YtnpiicnhdpldaaaW.PrintWords

/-- What holds of a reader's answer: an error leaves no bytes. -/
def InvB (l : List Int) (y : Int) : Prop := y = 0 ∨ l = []
theorem numG_inv : ∀ (r : Nat) (n : Int) (k : Nat) (l : List Int), 0 ≤ n → 0 ≤ (numG r n k l).1 ∧ InvB (numG r n k l).2.2.2.2.1 (numG r n k l).2.2.2.2.2 ∧ ((numG r n k l).2.2.2.1 = false → (numG r n k l).2.2.2.2.2 ≠ 0)
  | 0, n, k, l, h => ⟨h, .inr rfl, fun _ => by simp [numG]⟩
  | r + 1, n, k, [], h => ⟨h, .inr rfl, fun _ => by simp [numG]⟩
  | r + 1, n, k, c :: t, h => by
    have hs : 0 ≤ numS n k c := (Go.bounds_u64 (Go.wf_bits .or .u64 _ _)).1
    unfold numG
    split
    · exact ⟨hs, .inl rfl, fun h => by cases h⟩
    · exact numG_inv r _ _ _ hs
theorem numF_inv (bits : Int) (l : List Int) (y : Int) : 0 ≤ (numF bits l y).1 ∧ InvB (numF bits l y).2.2.2.2.1 (numF bits l y).2.2.2.2.2 ∧ ((numF bits l y).2.2.2.1 = false → (numF bits l y).2.2.2.2.2 ≠ 0) := by
  unfold numF
  split
  · exact ⟨Int.le_refl _, .inr rfl, fun _ => by
      show argE y ≠ 0
      unfold argE; split <;> omega⟩
  · split
    · exact numG_inv _ _ _ _ (Int.le_refl _)
    · rename_i h; exact ⟨Int.le_refl _, .inr rfl, fun _ => h⟩
theorem uF_inv (bits : Int) (l : List Int) (y : Int) : 0 ≤ (uF bits l y).1 ∧ InvB (uF bits l y).2.1 (uF bits l y).2.2 ∧ ((uF bits l y).2.2 ≠ 0 → (uF bits l y).1 = 0) ∧ (bits = 32 → (uF bits l y).1 < 4294967296) := by
  have h := numF_inv bits l y
  rcases hR : numF bits l y with ⟨n, k, s, ok, l', y'⟩
  rw [hR] at h
  simp only at h
  unfold uF
  rw [hR]
  simp only
  split
  · exact ⟨Int.le_refl _, h.2.1, fun _ => rfl, fun _ => by simp⟩
  · split
    · exact ⟨Int.le_refl _, .inr rfl, fun _ => rfl, fun _ => by simp⟩
    · rename_i h1 h2
      have hok : ok = true := by simpa using h1
      subst hok
      have h0 : y' = 0 := (numF_ok hR).1
      refine ⟨h.1, h.2.1, fun hne => absurd h0 hne, fun hb => ?_⟩
      subst hb
      have h3 : ¬ ((n / 2 ^ (32 : Int).toNat != 0) = true) := fun hc => h2 (.inr ⟨by decide, hc⟩)
      have h4 : n / 4294967296 = 0 := by simpa using h3
      simp only
      omega
theorem takeF_inv (n : Int) (l : List Int) (y : Int) : InvB (takeF n l y).2.1 (takeF n l y).2.2 := by
  unfold takeF; split
  · exact .inr rfl
  · split
    · split
      · exact .inl rfl
      · exact .inr rfl
    · exact .inr rfl

def emptyS : ByteArray := ⟨#[]⟩
/-- The next name: it, what is left, the error. -/
def nameF (l : List Int) (y : Int) : ByteArray × List Int × Int :=
  let U := uF 32 l y
  if U.2.2 ≠ 0 then (emptyS, [], U.2.2) else if (U.2.1.length : Int) < U.1 then (emptyS, [], 10) else
  if validG (strOfNums (U.2.1.take U.1.toNat)) (strOfNums (U.2.1.take U.1.toNat)).size 0 = true then (strOfNums (U.2.1.take U.1.toNat), U.2.1.drop U.1.toNat, 0) else (emptyS, [], 13)
structure NameQ (g : Nat) (w : World) (r : ByteArray × List Int × Int) (e : Ending) (w' : World) : Prop where mk ::
  (out : e = .returned (.string r.1) ∧ Rdr 55 w' g r.2.1 r.2.2 ∧ Turn w w' g)

theorem fail_13 (g : Nat) (l : List Int) (w : World) (H : Rdr 55 w g l 0) :
    Calls Try.prog 31 #[.pointer (some ⟨g, 0, none⟩), .int .i64 13] w fun e w' => e = .returned (.tuple #[]) ∧ Rdr 55 w' g [] 13 ∧ Turn w w' g := fail_r g l 0 13 w H
theorem rdr_below {T : Nat} {w w' : World} {g : Nat} {l : List Int} {y : Int} (H : Rdr T w g l y) (h : Below w.heap.size w w') : Rdr T w' g l y := by
  obtain ⟨A, c, hb, hc, hr, hx, hl⟩ := H.out
  exact ⟨A, c, (h.block g (blk_lt hb)).trans hb, hc, hr.below h, hx, hl⟩
theorem rdr_turn {T T' : Nat} {w w' : World} {g g' : Nat} {l l' : List Int} {y y' : Int} (H : Rdr T w g l y) (H' : Rdr T' w g' l' y') (ht : Turn w w' g') (hne : g ≠ g') : Rdr T w' g l y := by
  obtain ⟨A, c, hb, hc, hr, hx, hl⟩ := H.out
  obtain ⟨A', c', hb', _⟩ := H'.out
  exact ⟨A, c, (ht.block g (blk_lt hb) hne).trans hb, hc, reads_turn hb' hr ht, hx, hl⟩
theorem rdr_len {T : Nat} {w : World} {g : Nat} {l : List Int} {y : Int} (H : Rdr T w g l y) : l.length ≤ 140737488351232 := by
  obtain ⟨A, c, hb, hc, hr, hx, hl⟩ := H.out; exact hl
theorem iter_below (w : World) (s : ByteArray) (pos : Nat) : Below w.heap.size w (w.iter s pos) := (Below.refl _ _).alloc (Nat.le_refl _) _
theorem size_strOfNums (xs : List Int) : (strOfNums xs).size = xs.length := by
  unfold strOfNums; simp [ByteArray.size]

set_option maxRecDepth 100000 in
theorem name_err (g : Nat) (l : List Int) (y n : Int) (l1 : List Int) (y1 : Int) (w : World) (H : Rdr 55 w g l y) (hy : y = 0 ∨ l = []) (hu : uF 32 l y = (n, l1, y1)) (h0 : 0 ≤ n) (h32 : n < 4294967296) (hn : n = 0) (hl1 : l1 = []) (hy1 : y1 ≠ 0) :
    Calls Try.prog 29 #[.pointer (some ⟨g, 0, none⟩)] w (NameQ g w (emptyS, [], y1)) := by
  have hU := u_c g 32 l y w H hy
  rw [hu] at hU
  have HU := Lib.hid hU
  have HH := Lib.hid H
  clear hU H hy hu
  subst hn
  subst hl1
  have HI : Hid (InvB [] y1) := Lib.hid (.inr rfl)
  have HT : Hid (takeF 0 [] y1 = ([], [], y1)) := Lib.hid (by unfold takeF; rw [if_neg (by omega), if_neg hy1])
  have hne : (y1 != 0) = true := by simpa using hy1
  obtain ⟨bs, hbs⟩ : ∃ bs : List Int, bs = [] := ⟨[], rfl⟩
  have hv : validG (strOfNums bs) (strOfNums bs).size 0 = true := by subst hbs; rfl
  have HS : Hid ((strOfNums bs).size ≤ 140737488351232) := Lib.hid (by subst hbs; rw [size_strOfNums]; simp)
  have HT : Hid (takeF 0 [] y1 = (bs, [], y1)) := Lib.hid (by rw [HT.out, hbs])
  clear hy1 hbs
  go_enter Try.func29, Try.ntmps29
  go_wp2_with (first | (go_at_call 14; refine HU.out.mono ?_; intro e w1 hnq; obtain ⟨he, hq, ht1⟩ : e = .returned (.int .u64 0) ∧ Rdr 55 w1 g [] y1 ∧ Turn w w1 g := hnq.out; subst he; clear hnq; have hbd := rdr_len hq; have HQ := Lib.hid hq; have HT1 := Lib.hid ht1; clear hq ht1) | (go_at_call 16; refine (left_k g _ _ _ HQ.out).mono ?_; rintro e w3 ⟨rfl, rfl⟩) | (go_at_call 31; refine (fail_10 g _ _ HQ.out).mono ?_; rintro e w3 ⟨rfl, hq, ht⟩; have HQ2 := Lib.hid hq; have HT2 := Lib.hid ht; clear hq ht) | (go_at_call 27; (refine (take_c g _ _ _ _ HQ.out HI.out).mono ?_; intro e w4 hnq; rw [HT.out] at hnq; obtain ⟨v, he, ho, hq, ht1⟩ : ∃ v, e = .returned v ∧ w4.ownsRow _ 5 1 v bs.length (nums .u8 bs) ∧ Rdr 55 w4 g [] y1 ∧ Turn _ w4 g := hnq.out; subst he; clear hnq; have hcv := own_string (P := Try.prog) (src := 25) (dst := 9) Try.underlying25 Try.underlying5 Try.underlying9 ho; have HQ3 := Lib.hid hq; have HT3 := Lib.hid ht1; clear hq ht1 ho)) | (go_at_call 10; refine (valid_w _ HS.out _).mono ?_; intro e w5 hnq; obtain ⟨he, pos, hw⟩ := hnq.out; subst he; subst hw; clear hnq; have HQ4 := Lib.hid (rdr_below HQ3.out (iter_below w4 (strOfNums bs) pos)); have HT4 := Lib.hid (Turn.of_below (iter_below w4 (strOfNums bs) pos) g)) | (go_at_call 15; refine (err_k g _ _ _ HQ4.out).mono ?_; rintro e w7 ⟨rfl, rfl⟩))
  go_ret
  exact ⟨rfl, HQ4.out, (HT1.out.trans HT3.out).trans HT4.out⟩
set_option maxRecDepth 100000 in
theorem name_long (g : Nat) (l : List Int) (y n : Int) (l1 : List Int) (y1 : Int) (w : World) (H : Rdr 55 w g l y) (hy : y = 0 ∨ l = []) (hu : uF 32 l y = (n, l1, y1)) (h0 : 0 ≤ n) (h32 : n < 4294967296) (hy1 : y1 = 0) (hn : (l1.length : Int) < n) :
    Calls Try.prog 29 #[.pointer (some ⟨g, 0, none⟩)] w (NameQ g w (emptyS, [], 10)) := by
  have hU := u_c g 32 l y w H hy
  rw [hu] at hU
  have HU := Lib.hid hU
  have HH := Lib.hid H
  clear hU H hy hu
  subst hy1
  have HI : Hid (InvB [] 10) := Lib.hid (.inr rfl)
  obtain ⟨bs, hbs⟩ : ∃ bs : List Int, bs = [] := ⟨[], rfl⟩
  have hv : validG (strOfNums bs) (strOfNums bs).size 0 = true := by subst hbs; rfl
  have HS : Hid ((strOfNums bs).size ≤ 140737488351232) := Lib.hid (by subst hbs; rw [size_strOfNums]; simp)
  have HT : Hid (takeF n [] 10 = (bs, [], 10)) := Lib.hid (by unfold takeF; rw [if_neg (by omega), if_neg (by omega), hbs])
  clear hbs
  go_enter Try.func29, Try.ntmps29
  go_wp2_with (first | (go_at_call 14; refine HU.out.mono ?_; intro e w1 hnq; obtain ⟨he, hq, ht1⟩ : e = .returned (.int .u64 n) ∧ Rdr 55 w1 g l1 0 ∧ Turn w w1 g := hnq.out; subst he; clear hnq; have hbd := rdr_len hq; have HQ := Lib.hid hq; have HT1 := Lib.hid ht1; clear hq ht1) | (go_at_call 16; refine (left_k g _ _ _ HQ.out).mono ?_; rintro e w3 ⟨rfl, rfl⟩) | (go_at_call 31; refine (fail_10 g _ _ HQ.out).mono ?_; rintro e w3 ⟨rfl, hq, ht⟩; have HQ2 := Lib.hid hq; have HT2 := Lib.hid ht; clear hq ht) | (go_at_call 27; refine (take_c g _ _ _ _ HQ2.out HI.out).mono ?_; intro e w4 hnq; rw [HT.out] at hnq; obtain ⟨v, he, ho, hq, ht1⟩ : ∃ v, e = .returned v ∧ w4.ownsRow _ 5 1 v bs.length (nums .u8 bs) ∧ Rdr 55 w4 g [] 10 ∧ Turn _ w4 g := hnq.out; subst he; clear hnq; have hcv := own_string (P := Try.prog) (src := 25) (dst := 9) Try.underlying25 Try.underlying5 Try.underlying9 ho; have HQ3 := Lib.hid hq; have HT3 := Lib.hid ht1; clear hq ht1 ho) | (go_at_call 10; refine (valid_w _ HS.out _).mono ?_; intro e w5 hnq; obtain ⟨he, pos, hw⟩ := hnq.out; subst he; subst hw; clear hnq; have HQ4 := Lib.hid (rdr_below HQ3.out (iter_below w4 (strOfNums bs) pos)); have HT4 := Lib.hid (Turn.of_below (iter_below w4 (strOfNums bs) pos) g)) | (go_at_call 15; refine (err_k g _ _ _ HQ4.out).mono ?_; rintro e w7 ⟨rfl, rfl⟩))
  go_ret
  exact ⟨rfl, HQ4.out, ((HT1.out.trans HT2.out).trans HT3.out).trans HT4.out⟩
set_option maxRecDepth 100000 in
theorem name_some (g : Nat) (l : List Int) (y n : Int) (l1 : List Int) (y1 : Int) (w : World) (H : Rdr 55 w g l y) (hy : y = 0 ∨ l = []) (hu : uF 32 l y = (n, l1, y1)) (h0 : 0 ≤ n) (h32 : n < 4294967296) (hy1 : y1 = 0) (hn : n ≤ (l1.length : Int)) (hL : l1.length ≤ 140737488351232) (hv : validG (strOfNums (l1.take n.toNat)) (strOfNums (l1.take n.toNat)).size 0 = true) :
    Calls Try.prog 29 #[.pointer (some ⟨g, 0, none⟩)] w (NameQ g w (strOfNums (l1.take n.toNat), l1.drop n.toNat, 0)) := by
  have hU := u_c g 32 l y w H hy
  rw [hu] at hU
  have HU := Lib.hid hU
  have HH := Lib.hid H
  clear hU H hy hu
  subst hy1
  have HI : Hid (InvB l1 0) := Lib.hid (.inl rfl)
  obtain ⟨bs, hbs⟩ : ∃ bs : List Int, bs = l1.take n.toNat := ⟨_, rfl⟩
  rw [← hbs] at hv
  have HT : Hid (takeF n l1 0 = (bs, l1.drop n.toNat, 0)) := Lib.hid (by unfold takeF; rw [if_neg (by omega), if_pos rfl, if_pos hn, hbs])
  have HS : Hid ((strOfNums bs).size ≤ 140737488351232) := Lib.hid (by rw [size_strOfNums, hbs, List.length_take]; omega)
  have HBS := Lib.hid hbs
  clear hbs hL
  go_enter Try.func29, Try.ntmps29
  go_wp2_with (first | (go_at_call 14; refine HU.out.mono ?_; intro e w1 hnq; obtain ⟨he, hq, ht1⟩ : e = .returned (.int .u64 n) ∧ Rdr 55 w1 g l1 0 ∧ Turn w w1 g := hnq.out; subst he; clear hnq; have hbd := rdr_len hq; have HQ := Lib.hid hq; have HT1 := Lib.hid ht1; clear hq ht1) | (go_at_call 16; refine (left_k g _ _ _ HQ.out).mono ?_; rintro e w3 ⟨rfl, rfl⟩) | (go_at_call 31; refine (fail_10 g _ _ HQ.out).mono ?_; rintro e w3 ⟨rfl, hq, ht⟩; have HQ2 := Lib.hid hq; have HT2 := Lib.hid ht; clear hq ht) | (go_at_call 27; refine (take_c g _ _ _ _ HQ.out HI.out).mono ?_; intro e w4 hnq; rw [HT.out] at hnq; obtain ⟨v, he, ho, hq, ht1⟩ : ∃ v, e = .returned v ∧ w4.ownsRow _ 5 1 v bs.length (nums .u8 bs) ∧ Rdr 55 w4 g (l1.drop n.toNat) 0 ∧ Turn _ w4 g := hnq.out; subst he; clear hnq; have hcv := own_string (P := Try.prog) (src := 25) (dst := 9) Try.underlying25 Try.underlying5 Try.underlying9 ho; have HQ3 := Lib.hid hq; have HT3 := Lib.hid ht1; clear hq ht1 ho) | (go_at_call 10; refine (valid_w _ HS.out _).mono ?_; intro e w5 hnq; obtain ⟨he, pos, hw⟩ := hnq.out; subst he; subst hw; clear hnq; have HQ4 := Lib.hid (rdr_below HQ3.out (iter_below w4 (strOfNums bs) pos)); have HT4 := Lib.hid (Turn.of_below (iter_below w4 (strOfNums bs) pos) g)) | (go_at_call 15; refine (err_k g _ _ _ HQ4.out).mono ?_; rintro e w7 ⟨rfl, rfl⟩))
  go_ret
  exact ⟨by rw [HBS.out]; rfl, HQ4.out, (HT1.out.trans HT3.out).trans HT4.out⟩
set_option maxRecDepth 100000 in
theorem name_bad (g : Nat) (l : List Int) (y n : Int) (l1 : List Int) (y1 : Int) (w : World) (H : Rdr 55 w g l y) (hy : y = 0 ∨ l = []) (hu : uF 32 l y = (n, l1, y1)) (h0 : 0 ≤ n) (h32 : n < 4294967296) (hy1 : y1 = 0) (hn : n ≤ (l1.length : Int)) (hL : l1.length ≤ 140737488351232) (hv : validG (strOfNums (l1.take n.toNat)) (strOfNums (l1.take n.toNat)).size 0 = false) :
    Calls Try.prog 29 #[.pointer (some ⟨g, 0, none⟩)] w (NameQ g w (emptyS, [], 13)) := by
  have hU := u_c g 32 l y w H hy
  rw [hu] at hU
  have HU := Lib.hid hU
  have HH := Lib.hid H
  clear hU H hy hu
  subst hy1
  have HI : Hid (InvB l1 0) := Lib.hid (.inl rfl)
  obtain ⟨bs, hbs⟩ : ∃ bs : List Int, bs = l1.take n.toNat := ⟨_, rfl⟩
  rw [← hbs] at hv
  have HT : Hid (takeF n l1 0 = (bs, l1.drop n.toNat, 0)) := Lib.hid (by unfold takeF; rw [if_neg (by omega), if_pos rfl, if_pos hn, hbs])
  have HS : Hid ((strOfNums bs).size ≤ 140737488351232) := Lib.hid (by rw [size_strOfNums, hbs, List.length_take]; omega)
  clear hbs hL
  go_enter Try.func29, Try.ntmps29
  go_wp2_with (first | (go_at_call 14; refine HU.out.mono ?_; intro e w1 hnq; obtain ⟨he, hq, ht1⟩ : e = .returned (.int .u64 n) ∧ Rdr 55 w1 g l1 0 ∧ Turn w w1 g := hnq.out; subst he; clear hnq; have hbd := rdr_len hq; have HQ := Lib.hid hq; have HT1 := Lib.hid ht1; clear hq ht1) | (go_at_call 16; refine (left_k g _ _ _ HQ.out).mono ?_; rintro e w3 ⟨rfl, rfl⟩) | (go_at_call 27; refine (take_c g _ _ _ _ HQ.out HI.out).mono ?_; intro e w4 hnq; rw [HT.out] at hnq; obtain ⟨v, he, ho, hq, ht1⟩ : ∃ v, e = .returned v ∧ w4.ownsRow _ 5 1 v bs.length (nums .u8 bs) ∧ Rdr 55 w4 g (l1.drop n.toNat) 0 ∧ Turn _ w4 g := hnq.out; subst he; clear hnq; have hcv := own_string (P := Try.prog) (src := 25) (dst := 9) Try.underlying25 Try.underlying5 Try.underlying9 ho; have HQ3 := Lib.hid hq; have HT3 := Lib.hid ht1; clear hq ht1 ho) | (go_at_call 10; refine (valid_w _ HS.out _).mono ?_; intro e w5 hnq; obtain ⟨he, pos, hw⟩ := hnq.out; subst he; subst hw; clear hnq; have HQ4 := Lib.hid (rdr_below HQ3.out (iter_below w4 (strOfNums bs) pos)); have HT4 := Lib.hid (Turn.of_below (iter_below w4 (strOfNums bs) pos) g)) | (go_at_call 31; refine (fail_13 g _ _ HQ4.out).mono ?_; rintro e w6 ⟨rfl, hq, ht⟩; have HQ5 := Lib.hid hq; have HT5 := Lib.hid ht; clear hq ht) | (go_at_call 15; refine (err_k g _ _ _ HQ5.out).mono ?_; rintro e w7 ⟨rfl, rfl⟩))
  go_ret
  exact ⟨rfl, HQ5.out, ((HT1.out.trans HT3.out).trans HT4.out).trans HT5.out⟩

theorem numG_len : ∀ (r : Nat) (n : Int) (k : Nat) (l : List Int), (numG r n k l).2.2.2.2.1.length ≤ l.length
  | 0, n, k, l => by simp [numG]
  | r + 1, n, k, [] => by simp [numG]
  | r + 1, n, k, c :: t => by
    unfold numG
    split
    · simp
    · exact Nat.le_trans (numG_len r _ _ _) (by simp)
theorem numF_len (bits : Int) (l : List Int) (y : Int) : (numF bits l y).2.2.2.2.1.length ≤ l.length := by
  unfold numF
  split
  · simp
  · split
    · exact numG_len _ _ _ _
    · simp
theorem uF_len (bits : Int) (l : List Int) (y : Int) : (uF bits l y).2.1.length ≤ l.length := by
  have := numF_len bits l y
  unfold uF
  simp only
  split
  · exact this
  · split
    · simp
    · exact this
theorem sF_len (bits : Int) (l : List Int) (y : Int) : (sF bits l y).2.1.length ≤ l.length := by
  have := numF_len bits l y
  unfold sF
  simp only
  split
  · exact this
  · split
    · simp
    · split
      · simp
      · exact this
theorem name_c (g : Nat) (l : List Int) (y : Int) (w : World) (H : Rdr 55 w g l y) (hy : y = 0 ∨ l = []) :
    Calls Try.prog 29 #[.pointer (some ⟨g, 0, none⟩)] w (NameQ g w (nameF l y)) := by
  have hi := uF_inv 32 l y
  have hlen := uF_len 32 l y
  have hL := rdr_len H
  rcases hu : uF 32 l y with ⟨n, l1, y1⟩
  rw [hu] at hi hlen
  have hi : 0 ≤ n ∧ InvB l1 y1 ∧ (y1 ≠ 0 → n = 0) ∧ (32 = (32 : Int) → n < 4294967296) := hi
  have hlen : l1.length ≤ l.length := hlen
  by_cases c1 : y1 ≠ 0
  · have e : nameF l y = (emptyS, [], y1) := by unfold nameF; rw [hu]; simp only; rw [if_pos c1]
    rw [e]
    exact name_err g l y n l1 y1 w H hy hu hi.1 (hi.2.2.2 rfl) (hi.2.2.1 c1) (by rcases hi.2.1 with h | h; exact absurd h c1; exact h) c1
  · have c0 : y1 = 0 := by omega
    by_cases c2 : (l1.length : Int) < n
    · have e : nameF l y = (emptyS, [], 10) := by unfold nameF; rw [hu]; simp only; rw [if_neg c1, if_pos c2]
      rw [e]
      exact name_long g l y n l1 y1 w H hy hu hi.1 (hi.2.2.2 rfl) c0 c2
    · by_cases c3 : validG (strOfNums (l1.take n.toNat)) (strOfNums (l1.take n.toNat)).size 0 = true
      · have e : nameF l y = (strOfNums (l1.take n.toNat), l1.drop n.toNat, 0) := by unfold nameF; rw [hu]; simp only; rw [if_neg c1, if_neg c2, if_pos c3]
        rw [e]
        exact name_some g l y n l1 y1 w H hy hu hi.1 (hi.2.2.2 rfl) c0 (by omega) (by omega) c3
      · have e : nameF l y = (emptyS, [], 13) := by unfold nameF; rw [hu]; simp only; rw [if_neg c1, if_neg c2, if_neg c3]
        rw [e]
        exact name_bad g l y n l1 y1 w H hy hu hi.1 (hi.2.2.2 rfl) c0 (by omega) (by omega) (Bool.eq_false_iff.2 c3)
end Go.Proofs.Ytnpiicnhdpldaaa.Lb
