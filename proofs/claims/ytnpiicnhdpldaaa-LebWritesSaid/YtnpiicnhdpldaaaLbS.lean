/-
  The walk of the law LebWrites. No condition but those of every slice and string that is read: they take no more than 2^47 bytes.
-/
import Derived.Test.YtnpiicnhdpldaaaLbO
namespace Go.Proofs.Ytnpiicnhdpldaaa.Lb
set_option linter.unusedVariables false
set_option linter.unusedSimpArgs false
open Go.RowKit Go.Proofs.YtnpiicnhdpldaaaW.PrintWords Go.Proofs.YtnpiicnhdpldaaaW.PrintLast Go.Proofs.Ytnpiicnhdpldaaa.PLeb

def T10 : Bool × List (List Nat × List Nat) := (true, [([], []), ([0], [0]), ([], []), ([], []), ([3], [3]), ([4], [4]), ([2, 5], [2, 5]), ([1, 6], [1, 6]), ([7, 4], [7]), ([8], [8]), ([9, 8], [8, 9]), ([8], [8]), ([8], [8]), ([12, 8, 8], [8, 12]), ([13, 8], [8, 13]), ([11, 14, 8], [8, 11, 14]), ([10, 15, 8], [8, 10, 15]), ([8, 16], [8, 16]), ([17, 13], [17]), ([18], [18]), ([19, 18], [18, 19]), ([18], [18]), ([18], [18]), ([22, 18, 18], [18, 22]), ([23, 18], [18, 23]), ([21, 24, 18], [18, 21, 24]), ([20, 25, 18], [18, 20, 25]), ([18, 26], [18, 26]), ([27, 23, 0, 1, 2, 3, 4, 5, 6, 7, 8, 9, 10, 11, 12, 13, 14, 15, 16, 17, 18, 19, 20, 21, 22, 23, 24, 25, 26, 27], [27])])
def B10 : List Nat := [0, 1, 0, 0, 8, 24, 60, 127, 255, 511, 1023, 511, 511, 4607, 12799, 31231, 65535, 131071, 262143, 524287, 1048575, 524287, 524287, 4718591, 13107199, 31981567, 67108863, 134217727, 268435455]
theorem tab10 : rtab .any (opsOf Try.f5 10) = T10 := by kernel_rfl
theorem bits10 : waitsOk T10.2 B10 = true := by kernel_rfl

theorem strOfNums_append (a b : List Int) : strOfNums (a ++ b) = strOfNums a ++ strOfNums b := by
  unfold strOfNums
  apply ByteArray.ext
  simp
/-- A row of bytes of one's own, in blocks of a range. -/
def RowIn (w : World) (lo hi : Nat) (v : Value) (n : Nat) : Prop := ∃ ys : List Int, ys.length = n ∧ w.ownsRow lo 5 1 v n (nums .u8 ys) ∧ ∀ k, v.ownBlock = some k → k < hi
theorem RowIn.below {w w' : World} {lo hi n : Nat} {v : Value} (h : RowIn w lo hi v n) (hb : Below w.heap.size w w') : RowIn w' lo hi v n := by
  obtain ⟨ys, h1, h2, h3⟩ := h
  exact ⟨ys, h1, pw_own_below h2 hb, h3⟩
theorem RowIn.far {w : World} {lo hi n : Nat} {v : Value} (h : RowIn w lo hi v n) {p : Addr} (hp : p.block < lo ∨ hi ≤ p.block) (u : Value) : RowIn (w.setCell p u) lo hi v n := by
  obtain ⟨ys, h1, h2, h3⟩ := h
  refine ⟨ys, h1, own_setCell h2 (fun e => ?_) u, h3⟩
  have := own_base h2 _ e.symm
  have := h3 _ e.symm
  omega
theorem RowIn.of {w w' : World} {lo n : Nat} {v : Value} {ys : List Int} (h : w.ownsRow lo 5 1 v ys.length (nums .u8 ys)) (hn : ys.length = n) (hb : Below w.heap.size w w') : RowIn w' lo w.heap.size v n := by
  subst hn
  exact ⟨ys, rfl, pw_own_below h hb, fun k hk => own_lt h k hk⟩
def Rows3 (w wr : World) (b1 b2 b3 b4 : Nat) (x y z : Value) (n1 n2 n3 : Nat) : Prop := RowIn wr b1 b2 x n1 ∧ RowIn wr b2 b3 y n2 ∧ RowIn wr b3 b4 z n3 ∧ Below w.heap.size w wr
def WRel (w : World) (b1 b2 b3 b4 : Nat) (x y z : Value) (n1 n2 n3 n : Nat) (i : Value) (wr : World) : Prop := ∃ k : Nat, i = .int .i64 k ∧ k ≤ n ∧ Rows3 w wr b1 b2 b3 b4 x y z n1 n2 n3
theorem RU_c (k : Nat) (n : Int) (r : List Int) (h : bodkinref01_U.f k n = some r) (w : World) : Calls Try.prog 19 #[.int .u64 n] w (RowQ w r) :=
  (bodkinref01_U.calls k n r w h).mono fun _ _ ⟨v, h1, h2, h3⟩ => ⟨v, h1, Kd.own_of_R h2, h3⟩
theorem RS_c (k : Nat) (n : Int) (r : List Int) (h : bodkinref01_S.f k n = some r) (w : World) : Calls Try.prog 20 #[.int .i64 n] w (RowQ w r) :=
  (bodkinref01_S.calls k n r w h).mono fun _ _ ⟨v, h1, h2, h3⟩ => ⟨v, h1, Kd.own_of_R h2, h3⟩
theorem RN_c (k : Nat) (n : ByteArray) (r : List Int) (h : bodkinref01_Name.f k n = some r) (w : World) : Calls Try.prog 21 #[.string n] w (RowQ w r) :=
  (bodkinref01_Name.calls k n r w h).mono fun _ _ ⟨v, h1, h2, h3⟩ => ⟨v, h1, Kd.own_of_R h2, h3⟩

set_option maxHeartbeats 2000000 in
set_option maxRecDepth 100000 in
theorem writes_law (A : Option Addr) (c : Nat) (l : List Int) (n m : Int) (s : ByteArray) (w : World) (hr : ReadsInt w .u8 A l.length l) (hc : l.length ≤ c) (hl : (l.length : Int) ≤ 1000) (hs : (s.size : Int) ≤ 1000)
    (e1 e2 e3 : List Int) (hU : leb_U.f 20 l n = some (l ++ e1)) (hS : leb_S.f 20 l m = some (l ++ e2)) (hN : leb_Name.f 20 l s = some (l ++ e3))
    (hq1 : e1.length ≤ 2000) (hq2 : e2.length ≤ 2000) (hq3 : e3.length ≤ 2000) (hRU : bodkinref01_U.f 20 n = some e1) (hRS : bodkinref01_S.f 40 m = some e2) (hRN : bodkinref01_Name.f 20 s = some e3) :
    Calls Try.prog 5 #[.slice A l.length c, .int .u64 n, .int .i64 m, .string s] w fun e w' => e = .returned (.bool true) ∧ Below w.heap.size w w' := by
  have HR := Lib.hid hr
  have HC := Lib.hid hc
  have HU := Lib.hid hU
  have HS := Lib.hid hS
  have HN := Lib.hid hN
  have RU := Lib.hid (RU_c 20 n e1 hRU)
  have RS := Lib.hid (RS_c 40 m e2 hRS)
  have RN := Lib.hid (RN_c 20 s e3 hRN)
  obtain ⟨was, hwas⟩ : ∃ was, was = strOfNums l := ⟨_, rfl⟩
  have HWAS := Lib.hid hwas
  have hws : was.size = l.length := by rw [hwas, size_strOfNums]
  have big : ∀ e : List Int, e.length ≤ 2000 → (9223372036854775807 < was.size + (strOfNums e).size) = False := fun e he => by
    rw [size_strOfNums, hws]; exact eq_false (by omega)
  have z1 := Aside0.mk (big e1 hq1)
  have z2 := Aside0.mk (big e2 hq2)
  have z3 := Aside0.mk (big e3 hq3)
  have HLN : Hid (l.length ≤ 1000 ∧ e1.length ≤ 2000 ∧ e2.length ≤ 2000 ∧ e3.length ≤ 2000) := Lib.hid ⟨by omega, hq1, hq2, hq3⟩
  clear big hws hq1 hq2 hq3
  clear hr hc hU hS hN hRU hRS hRN hwas
  go_enter Try.func5, Try.ntmps5
  go_wp2_with (first | (go_at_call 9; refine (awake_c _).mono ?_; rintro e w1 ⟨rfl, hb⟩; have hcv := string_reads (c := c) HR.out hb; rw [← HWAS.out] at hcv; have HB := Lib.hid hb; clear hb) | (go_at_call 12; refine (U_c 20 A c l n _ _ (HR.out.below HB.out) HC.out HU.out).mono ?_; intro e w2 hq; obtain ⟨x, he, ho, hb⟩ := hq.out; subst he; have HO2 := Lib.hid ho; have HB2 := Lib.hid (HB.out.trans (hb.mono HB.out.size)); have HS2 := Lib.hid hb; clear hq ho hb) | (go_at_call 17; refine (S_c 20 A c l m _ _ (HR.out.below HB2.out) HC.out HS.out).mono ?_; intro e w3 hq; obtain ⟨y, he, ho, hb⟩ := hq.out; subst he; have HO3 := Lib.hid ho; have HB3 := Lib.hid (HB2.out.trans (hb.mono HB2.out.size)); have HS3 := Lib.hid hb; clear hq ho hb) | (go_at_call 18; refine (N_c 20 A c l s _ _ (HR.out.below HB3.out) HC.out HN.out).mono ?_; intro e w4 hq; obtain ⟨z, he, ho, hb⟩ := hq.out; subst he; have HO4 := Lib.hid ho; have HB4 := Lib.hid (HB3.out.trans (hb.mono HB3.out.size)); have HS4 := Lib.hid hb; clear hq ho hb))
  have h23 : Below w2.heap.size w2 w4 := HS3.out.trans (HS4.out.mono HS3.out.size)
  have HD : Hid (Below w4.heap.size w4 w4.drew) := Lib.hid (Below.refl _ _).drew
  have HX : Hid (∀ w', Below w4.drew.heap.size w4.drew w' → (convert 25 9 x).run Try.prog w' = .ok (.string (was ++ strOfNums e1)) w') := Lib.hid (fun w' hb => by
    rw [HWAS.out, ← strOfNums_append]
    exact row_string HO2.out w' (h23.trans ((HD.out.trans hb).mono h23.size)))
  have HY : Hid (∀ w', Below w4.drew.heap.size w4.drew w' → (convert 25 9 y).run Try.prog w' = .ok (.string (was ++ strOfNums e2)) w') := Lib.hid (fun w' hb => by
    rw [HWAS.out, ← strOfNums_append]
    exact row_string HO3.out w' (HS4.out.trans ((HD.out.trans hb).mono HS4.out.size)))
  have HZ : Hid (∀ w', Below w4.drew.heap.size w4.drew w' → (convert 25 9 z).run Try.prog w' = .ok (.string (was ++ strOfNums e3)) w') := Lib.hid (fun w' hb => by
    rw [HWAS.out, ← strOfNums_append]
    exact row_string HO4.out w' (HD.out.trans hb))
  clear h23
  refine start_ (n := 29) (S := fun w' => Below w4.drew.heap.size w4.drew w') (ds := []) #[false, false, false, false, false, false, false, false, false, false, false, false, false, false, false, false, false, false, false, false, false, false, false, false, false, false, false, false, false] (by kernel_rfl) rfl rfl (Below.refl _ _) (fun hHeld => ?_)
  refine with_tabW tab10 bits10 (fun HT_ HW_ => ?_)
  generalize w4.drew = wd at HX HY HZ HD hHeld ⊢
  have z1 := z1.out
  have z2 := z2.out
  have z3 := z3.out
  refine pure_ (i := 0) (N := some 40) (v := ?_) (a' := ?_) #[true, false, false, false, false, false, false, false, false, false, false, false, false, false, false, false, false, false, false, false, false, false, false, false, false, false, false, false, false] rfl rfl (any_of HT_.out (by kernel_rfl)) (fun _ _ _ h => h) (Or.inl ⟨by rfl, ?_⟩) ?_ ?_
  rotate_left
  · intro w'
    go_simp
    with_reducible rfl
  rotate_left
  · simp only [Act.put, List.setIfInBounds_toArray, List.set_cons_zero, List.set_cons_succ, i64_w, i32_w]
    rfl
  refine take_ (i := 1) (N := some 41) (v := ?_) (a' := ?_) #[true, true, false, false, false, false, false, false, false, false, false, false, false, false, false, false, false, false, false, false, false, false, false, false, false, false, false, false, false] rfl rfl (take_ofW HT_.out HW_.out (by kernel_rfl)) (fun _ _ _ h => h) (Or.inl ⟨by rfl, ?_⟩) hHeld ?_ ?_
  rotate_left
  · intro w' hS
    have hcv := HX.out w' hS
    go_simp
    with_reducible rfl
  rotate_left
  · simp only [Act.put, List.setIfInBounds_toArray, List.set_cons_zero, List.set_cons_succ, i64_w, i32_w]
    rfl
  refine pure_ (i := 2) (N := some 42) (v := ?_) (a' := ?_) #[true, true, true, false, false, false, false, false, false, false, false, false, false, false, false, false, false, false, false, false, false, false, false, false, false, false, false, false, false] rfl rfl (any_of HT_.out (by kernel_rfl)) (fun _ _ _ h => h) (Or.inl ⟨by rfl, ?_⟩) ?_ ?_
  rotate_left
  · intro w'
    go_simp
    with_reducible rfl
  rotate_left
  · simp only [Act.put, List.setIfInBounds_toArray, List.set_cons_zero, List.set_cons_succ, i64_w, i32_w]
    rfl
  refine pure_ (i := 3) (N := some 43) (v := ?_) (a' := ?_) #[true, true, true, true, false, false, false, false, false, false, false, false, false, false, false, false, false, false, false, false, false, false, false, false, false, false, false, false, false] rfl rfl (any_of HT_.out (by kernel_rfl)) (fun _ _ _ h => h) (Or.inl ⟨by rfl, ?_⟩) ?_ ?_
  rotate_left
  · intro w'
    go_simp
    with_reducible rfl
  rotate_left
  · simp only [Act.put, List.setIfInBounds_toArray, List.set_cons_zero, List.set_cons_succ, i64_w, i32_w]
    rfl
  refine one_ (i := 4) (N := some 44) #[true, true, true, true, true, false, false, false, false, false, false, false, false, false, false, false, false, false, false, false, false, false, false, false, false, false, false, false, false] rfl rfl (one_of HT_.out (by kernel_rfl)) (by decide) (fun K hK => ?_)
  refine goes_ Try.func19 (by kernel_rfl) rfl #[.int .u64 n] (by rfl) rfl rfl (by (try simp only [List.map_toArray, List.map_cons, List.map_nil]); first | done | rfl) ?_
  with_reducible refine (RU.out _).mono ?_
  intro e u1 hq
  obtain ⟨v1, he, ho, hb⟩ := hq.out
  subst he
  clear hq
  refine ⟨_, rfl, ?_⟩
  have hS1 : Below wd.heap.size wd u1 := hHeld.trans (hb.mono hHeld.size)
  have HCV := Lib.hid (row_string ho _ (Below.refl _ _))
  clear ho hb hHeld
  refine hK.out _ _ hS1 (fun hHeld => ?_)
  clear hK K hS1
  refine norm_ (a' := ?_) ?_ ?_
  rotate_left
  · show Act.put _ (some 44) _ = _
    simp only [Act.put, List.setIfInBounds_toArray, List.set_cons_zero, List.set_cons_succ, i64_w, i32_w]
    rfl
  refine one_ (i := 5) (N := some 45) #[true, true, true, true, true, true, false, false, false, false, false, false, false, false, false, false, false, false, false, false, false, false, false, false, false, false, false, false, false] rfl rfl (one_of HT_.out (by kernel_rfl)) (by decide) (fun K hK => ?_)
  have hcv := HCV.out
  refine value_ (w1 := ?_) (v := ?_) (by rfl) rfl ?_ ?_
  rotate_left 2
  · go_simp
    constructor
    · rfl
    · rfl
  clear hcv HCV
  refine hK.out _ _ hHeld (fun hHeld => ?_)
  clear hK K
  refine norm_ (a' := ?_) ?_ ?_
  rotate_left
  · show Act.put _ (some 45) _ = _
    simp only [Act.put, List.setIfInBounds_toArray, List.set_cons_zero, List.set_cons_succ, i64_w, i32_w]
    rfl
  refine pure_ (i := 6) (N := some 46) (v := ?_) (a' := ?_) #[true, true, true, true, true, true, true, false, false, false, false, false, false, false, false, false, false, false, false, false, false, false, false, false, false, false, false, false, false] rfl rfl (any_of HT_.out (by kernel_rfl)) (fun _ _ _ h => h) (Or.inl ⟨by rfl, ?_⟩) ?_ ?_
  rotate_left
  · intro w'
    go_simp
    with_reducible rfl
  rotate_left
  · simp only [Act.put, List.setIfInBounds_toArray, List.set_cons_zero, List.set_cons_succ, i64_w, i32_w]
    rfl
  refine pure_ (i := 7) (N := some 47) (v := ?_) (a' := ?_) #[true, true, true, true, true, true, true, true, false, false, false, false, false, false, false, false, false, false, false, false, false, false, false, false, false, false, false, false, false] rfl rfl (any_of HT_.out (by kernel_rfl)) (fun _ _ _ h => h) (Or.inl ⟨by rfl, ?_⟩) ?_ ?_
  rotate_left
  · intro w'
    go_simp
    with_reducible rfl
  rotate_left
  · simp only [Act.put, List.setIfInBounds_toArray, List.set_cons_zero, List.set_cons_succ, i64_w, i32_w]
    rfl
  refine pure_ (i := 8) (N := some 48) (v := ?_) (a' := ?_) #[true, true, true, true, true, true, true, true, true, false, false, false, false, false, false, false, false, false, false, false, false, false, false, false, false, false, false, false, false] rfl rfl (any_of HT_.out (by kernel_rfl)) (fun _ _ _ h => h) (Or.inl ⟨by rfl, ?_⟩) ?_ ?_
  rotate_left
  · intro w'
    go_simp
    with_reducible rfl
  rotate_left
  · simp only [Act.put, List.setIfInBounds_toArray, List.set_cons_zero, List.set_cons_succ, i64_w, i32_w]
    rfl
  refine pure_ (i := 9) (N := some 49) (v := ?_) (a' := ?_) #[true, true, true, true, true, true, true, true, true, true, false, false, false, false, false, false, false, false, false, false, false, false, false, false, false, false, false, false, false] rfl rfl (any_of HT_.out (by kernel_rfl)) (fun _ _ _ h => h) (Or.inl ⟨by rfl, ?_⟩) ?_ ?_
  rotate_left
  · intro w'
    go_simp
    with_reducible rfl
  rotate_left
  · simp only [Act.put, List.setIfInBounds_toArray, List.set_cons_zero, List.set_cons_succ, i64_w, i32_w]
    rfl
  refine take_ (i := 10) (N := some 50) (v := ?_) (a' := ?_) #[true, true, true, true, true, true, true, true, true, true, true, false, false, false, false, false, false, false, false, false, false, false, false, false, false, false, false, false, false] rfl rfl (take_ofW HT_.out HW_.out (by kernel_rfl)) (fun _ _ _ h => h) (Or.inl ⟨by rfl, ?_⟩) hHeld ?_ ?_
  rotate_left
  · intro w' hS
    have hcv := HY.out w' hS
    go_simp
    with_reducible rfl
  rotate_left
  · simp only [Act.put, List.setIfInBounds_toArray, List.set_cons_zero, List.set_cons_succ, i64_w, i32_w]
    rfl
  refine pure_ (i := 11) (N := some 51) (v := ?_) (a' := ?_) #[true, true, true, true, true, true, true, true, true, true, true, true, false, false, false, false, false, false, false, false, false, false, false, false, false, false, false, false, false] rfl rfl (any_of HT_.out (by kernel_rfl)) (fun _ _ _ h => h) (Or.inl ⟨by rfl, ?_⟩) ?_ ?_
  rotate_left
  · intro w'
    go_simp
    with_reducible rfl
  rotate_left
  · simp only [Act.put, List.setIfInBounds_toArray, List.set_cons_zero, List.set_cons_succ, i64_w, i32_w]
    rfl
  refine pure_ (i := 12) (N := some 52) (v := ?_) (a' := ?_) #[true, true, true, true, true, true, true, true, true, true, true, true, true, false, false, false, false, false, false, false, false, false, false, false, false, false, false, false, false] rfl rfl (any_of HT_.out (by kernel_rfl)) (fun _ _ _ h => h) (Or.inl ⟨by rfl, ?_⟩) ?_ ?_
  rotate_left
  · intro w'
    go_simp
    with_reducible rfl
  rotate_left
  · simp only [Act.put, List.setIfInBounds_toArray, List.set_cons_zero, List.set_cons_succ, i64_w, i32_w]
    rfl
  refine one_ (i := 13) (N := some 53) #[true, true, true, true, true, true, true, true, true, true, true, true, true, true, false, false, false, false, false, false, false, false, false, false, false, false, false, false, false] rfl rfl (one_of HT_.out (by kernel_rfl)) (by decide) (fun K hK => ?_)
  refine goes_ Try.func20 (by kernel_rfl) rfl #[.int .i64 m] (by rfl) rfl rfl (by (try simp only [List.map_toArray, List.map_cons, List.map_nil]); first | done | rfl) ?_
  with_reducible refine (RS.out _).mono ?_
  intro e u2 hq
  obtain ⟨v2, he, ho, hb⟩ := hq.out
  subst he
  clear hq
  refine ⟨_, rfl, ?_⟩
  have hS2 : Below wd.heap.size wd u2 := hHeld.trans (hb.mono hHeld.size)
  have HCV := Lib.hid (row_string ho _ (Below.refl _ _))
  clear ho hb hHeld
  refine hK.out _ _ hS2 (fun hHeld => ?_)
  clear hK K hS2
  refine norm_ (a' := ?_) ?_ ?_
  rotate_left
  · show Act.put _ (some 53) _ = _
    simp only [Act.put, List.setIfInBounds_toArray, List.set_cons_zero, List.set_cons_succ, i64_w, i32_w]
    rfl
  refine one_ (i := 14) (N := some 54) #[true, true, true, true, true, true, true, true, true, true, true, true, true, true, true, false, false, false, false, false, false, false, false, false, false, false, false, false, false] rfl rfl (one_of HT_.out (by kernel_rfl)) (by decide) (fun K hK => ?_)
  have hcv := HCV.out
  refine value_ (w1 := ?_) (v := ?_) (by rfl) rfl ?_ ?_
  rotate_left 2
  · go_simp
    constructor
    · rfl
    · rfl
  clear hcv HCV
  refine hK.out _ _ hHeld (fun hHeld => ?_)
  clear hK K
  refine norm_ (a' := ?_) ?_ ?_
  rotate_left
  · show Act.put _ (some 54) _ = _
    simp only [Act.put, List.setIfInBounds_toArray, List.set_cons_zero, List.set_cons_succ, i64_w, i32_w]
    rfl
  refine pure_ (i := 15) (N := some 55) (v := ?_) (a' := ?_) #[true, true, true, true, true, true, true, true, true, true, true, true, true, true, true, true, false, false, false, false, false, false, false, false, false, false, false, false, false] rfl rfl (any_of HT_.out (by kernel_rfl)) (fun _ _ _ h => h) (Or.inl ⟨by rfl, ?_⟩) ?_ ?_
  rotate_left
  · intro w'
    go_simp
    with_reducible rfl
  rotate_left
  · simp only [Act.put, List.setIfInBounds_toArray, List.set_cons_zero, List.set_cons_succ, i64_w, i32_w]
    rfl
  refine pure_ (i := 16) (N := some 56) (v := ?_) (a' := ?_) #[true, true, true, true, true, true, true, true, true, true, true, true, true, true, true, true, true, false, false, false, false, false, false, false, false, false, false, false, false] rfl rfl (any_of HT_.out (by kernel_rfl)) (fun _ _ _ h => h) (Or.inl ⟨by rfl, ?_⟩) ?_ ?_
  rotate_left
  · intro w'
    go_simp
    with_reducible rfl
  rotate_left
  · simp only [Act.put, List.setIfInBounds_toArray, List.set_cons_zero, List.set_cons_succ, i64_w, i32_w]
    rfl
  refine pure_ (i := 17) (N := some 57) (v := ?_) (a' := ?_) #[true, true, true, true, true, true, true, true, true, true, true, true, true, true, true, true, true, true, false, false, false, false, false, false, false, false, false, false, false] rfl rfl (any_of HT_.out (by kernel_rfl)) (fun _ _ _ h => h) (Or.inl ⟨by rfl, ?_⟩) ?_ ?_
  rotate_left
  · intro w'
    go_simp
    with_reducible rfl
  rotate_left
  · simp only [Act.put, List.setIfInBounds_toArray, List.set_cons_zero, List.set_cons_succ, i64_w, i32_w]
    rfl
  refine pure_ (i := 18) (N := some 58) (v := ?_) (a' := ?_) #[true, true, true, true, true, true, true, true, true, true, true, true, true, true, true, true, true, true, true, false, false, false, false, false, false, false, false, false, false] rfl rfl (any_of HT_.out (by kernel_rfl)) (fun _ _ _ h => h) (Or.inl ⟨by rfl, ?_⟩) ?_ ?_
  rotate_left
  · intro w'
    go_simp
    with_reducible rfl
  rotate_left
  · simp only [Act.put, List.setIfInBounds_toArray, List.set_cons_zero, List.set_cons_succ, i64_w, i32_w]
    rfl
  refine pure_ (i := 19) (N := some 59) (v := ?_) (a' := ?_) #[true, true, true, true, true, true, true, true, true, true, true, true, true, true, true, true, true, true, true, true, false, false, false, false, false, false, false, false, false] rfl rfl (any_of HT_.out (by kernel_rfl)) (fun _ _ _ h => h) (Or.inl ⟨by rfl, ?_⟩) ?_ ?_
  rotate_left
  · intro w'
    go_simp
    with_reducible rfl
  rotate_left
  · simp only [Act.put, List.setIfInBounds_toArray, List.set_cons_zero, List.set_cons_succ, i64_w, i32_w]
    rfl
  refine take_ (i := 20) (N := some 60) (v := ?_) (a' := ?_) #[true, true, true, true, true, true, true, true, true, true, true, true, true, true, true, true, true, true, true, true, true, false, false, false, false, false, false, false, false] rfl rfl (take_ofW HT_.out HW_.out (by kernel_rfl)) (fun _ _ _ h => h) (Or.inl ⟨by rfl, ?_⟩) hHeld ?_ ?_
  rotate_left
  · intro w' hS
    have hcv := HZ.out w' hS
    go_simp
    with_reducible rfl
  rotate_left
  · simp only [Act.put, List.setIfInBounds_toArray, List.set_cons_zero, List.set_cons_succ, i64_w, i32_w]
    rfl
  refine pure_ (i := 21) (N := some 61) (v := ?_) (a' := ?_) #[true, true, true, true, true, true, true, true, true, true, true, true, true, true, true, true, true, true, true, true, true, true, false, false, false, false, false, false, false] rfl rfl (any_of HT_.out (by kernel_rfl)) (fun _ _ _ h => h) (Or.inl ⟨by rfl, ?_⟩) ?_ ?_
  rotate_left
  · intro w'
    go_simp
    with_reducible rfl
  rotate_left
  · simp only [Act.put, List.setIfInBounds_toArray, List.set_cons_zero, List.set_cons_succ, i64_w, i32_w]
    rfl
  refine pure_ (i := 22) (N := some 62) (v := ?_) (a' := ?_) #[true, true, true, true, true, true, true, true, true, true, true, true, true, true, true, true, true, true, true, true, true, true, true, false, false, false, false, false, false] rfl rfl (any_of HT_.out (by kernel_rfl)) (fun _ _ _ h => h) (Or.inl ⟨by rfl, ?_⟩) ?_ ?_
  rotate_left
  · intro w'
    go_simp
    with_reducible rfl
  rotate_left
  · simp only [Act.put, List.setIfInBounds_toArray, List.set_cons_zero, List.set_cons_succ, i64_w, i32_w]
    rfl
  refine one_ (i := 23) (N := some 63) #[true, true, true, true, true, true, true, true, true, true, true, true, true, true, true, true, true, true, true, true, true, true, true, true, false, false, false, false, false] rfl rfl (one_of HT_.out (by kernel_rfl)) (by decide) (fun K hK => ?_)
  refine goes_ Try.func21 (by kernel_rfl) rfl #[.string s] (by rfl) rfl rfl (by (try simp only [List.map_toArray, List.map_cons, List.map_nil]); first | done | rfl) ?_
  with_reducible refine (RN.out _).mono ?_
  intro e u3 hq
  obtain ⟨v3, he, ho, hb⟩ := hq.out
  subst he
  clear hq
  refine ⟨_, rfl, ?_⟩
  have hS3 : Below wd.heap.size wd u3 := hHeld.trans (hb.mono hHeld.size)
  have HCV := Lib.hid (row_string ho _ (Below.refl _ _))
  clear ho hb hHeld
  refine hK.out _ _ hS3 (fun hHeld => ?_)
  clear hK K hS3
  refine norm_ (a' := ?_) ?_ ?_
  rotate_left
  · show Act.put _ (some 63) _ = _
    simp only [Act.put, List.setIfInBounds_toArray, List.set_cons_zero, List.set_cons_succ, i64_w, i32_w]
    rfl
  refine one_ (i := 24) (N := some 64) #[true, true, true, true, true, true, true, true, true, true, true, true, true, true, true, true, true, true, true, true, true, true, true, true, true, false, false, false, false] rfl rfl (one_of HT_.out (by kernel_rfl)) (by decide) (fun K hK => ?_)
  have hcv := HCV.out
  refine value_ (w1 := ?_) (v := ?_) (by rfl) rfl ?_ ?_
  rotate_left 2
  · go_simp
    constructor
    · rfl
    · rfl
  clear hcv HCV
  refine hK.out _ _ hHeld (fun hHeld => ?_)
  clear hK K
  refine norm_ (a' := ?_) ?_ ?_
  rotate_left
  · show Act.put _ (some 64) _ = _
    simp only [Act.put, List.setIfInBounds_toArray, List.set_cons_zero, List.set_cons_succ, i64_w, i32_w]
    rfl
  refine pure_ (i := 25) (N := some 65) (v := ?_) (a' := ?_) #[true, true, true, true, true, true, true, true, true, true, true, true, true, true, true, true, true, true, true, true, true, true, true, true, true, true, false, false, false] rfl rfl (any_of HT_.out (by kernel_rfl)) (fun _ _ _ h => h) (Or.inl ⟨by rfl, ?_⟩) ?_ ?_
  rotate_left
  · intro w'
    go_simp
    with_reducible rfl
  rotate_left
  · simp only [Act.put, List.setIfInBounds_toArray, List.set_cons_zero, List.set_cons_succ, i64_w, i32_w]
    rfl
  refine pure_ (i := 26) (N := some 66) (v := ?_) (a' := ?_) #[true, true, true, true, true, true, true, true, true, true, true, true, true, true, true, true, true, true, true, true, true, true, true, true, true, true, true, false, false] rfl rfl (any_of HT_.out (by kernel_rfl)) (fun _ _ _ h => h) (Or.inl ⟨by rfl, ?_⟩) ?_ ?_
  rotate_left
  · intro w'
    go_simp
    with_reducible rfl
  rotate_left
  · simp only [Act.put, List.setIfInBounds_toArray, List.set_cons_zero, List.set_cons_succ, i64_w, i32_w]
    rfl
  refine pure_ (i := 27) (N := some 67) (v := ?_) (a' := ?_) #[true, true, true, true, true, true, true, true, true, true, true, true, true, true, true, true, true, true, true, true, true, true, true, true, true, true, true, true, false] rfl rfl (any_of HT_.out (by kernel_rfl)) (fun _ _ _ h => h) (Or.inl ⟨by rfl, ?_⟩) ?_ ?_
  rotate_left
  · intro w'
    go_simp
    with_reducible rfl
  rotate_left
  · simp only [Act.put, List.setIfInBounds_toArray, List.set_cons_zero, List.set_cons_succ, i64_w, i32_w]
    rfl
  refine pure_ (i := 28) (N := some 14) (v := ?_) (a' := ?_) #[true, true, true, true, true, true, true, true, true, true, true, true, true, true, true, true, true, true, true, true, true, true, true, true, true, true, true, true, true] rfl rfl (any_of HT_.out (by kernel_rfl)) (fun _ _ _ h => h) (Or.inl ⟨by rfl, ?_⟩) ?_ ?_
  rotate_left
  · intro w'
    go_simp
    with_reducible rfl
  rotate_left
  · simp only [Act.put, List.setIfInBounds_toArray, List.set_cons_zero, List.set_cons_succ, i64_w, i32_w]
    rfl
  refine done_ (done_of HT_.out (by kernel_rfl)) ?_
  try go_wp2
  obtain ⟨A1, c1, rfl⟩ := own_slice HO2.out
  obtain ⟨A2, c2, rfl⟩ := own_slice HO3.out
  obtain ⟨A3, c3, rfl⟩ := own_slice HO4.out
  have h4 := HD.out.trans (hHeld.mono HD.out.size)
  have h3 := HS4.out.trans (h4.mono HS4.out.size)
  have h2 := HS3.out.trans (h3.mono HS3.out.size)
  obtain ⟨n1, hn1⟩ : ∃ n1, (l ++ e1).length = n1 := ⟨_, rfl⟩
  obtain ⟨n2, hn2⟩ : ∃ n2, (l ++ e2).length = n2 := ⟨_, rfl⟩
  obtain ⟨n3, hn3⟩ : ∃ n3, (l ++ e3).length = n3 := ⟨_, rfl⟩
  obtain ⟨b1, hb1⟩ : ∃ b, w1.heap.size = b := ⟨_, rfl⟩
  obtain ⟨b2, hb2⟩ : ∃ b, w2.heap.size = b := ⟨_, rfl⟩
  obtain ⟨b3, hb3⟩ : ∃ b, w3.heap.size = b := ⟨_, rfl⟩
  obtain ⟨b4, hb4⟩ : ∃ b, w4.heap.size = b := ⟨_, rfl⟩
  have HLE : Hid (w.heap.size ≤ b1 ∧ b1 ≤ b2 ∧ b2 ≤ b3 ∧ b3 ≤ b4) := Lib.hid ⟨by have := HB.out.size; omega, by have := HS2.out.size; omega, by have := HS3.out.size; omega, by have := HS4.out.size; omega⟩
  have HROWS : Hid (Rows3 w u3 b1 b2 b3 b4 (.slice A1 n1 c1) (.slice A2 n2 c2) (.slice A3 n3 c3) n1 n2 n3) := Lib.hid (by
    have q1 := RowIn.of HO2.out hn1 h2
    have q2 := RowIn.of HO3.out hn2 h3
    have q3 := RowIn.of HO4.out hn3 h4
    rw [hb1, hb2, hn1] at q1
    rw [hb2, hb3, hn2] at q2
    rw [hb3, hb4, hn3] at q3
    exact ⟨q1, q2, q3, HB4.out.trans (h4.mono HB4.out.size)⟩)
  simp only [hn1, hn2, hn3]
  have hbn : n1 ≤ 100000 ∧ n2 ≤ 100000 ∧ n3 ≤ 100000 := by
    have := HLN.out
    simp only [List.length_append] at hn1 hn2 hn3
    omega
  clear h2 h3 h4 hn1 hn2 hn3 hb1 hb2 hb3 hb4 HX HY HZ HT_ HW_ hHeld HO2 HO3 HO4
  obtain ⟨hbn1, hbn2, hbn3⟩ := hbn
  go_loopw [15] (WRel w b1 b2 b3 b4 (.slice A1 n1 c1) (.slice A2 n2 c2) (.slice A3 n3 c3) n1 n2 n3 n1) (fun i _ => n1 - (intOf i).toNat)
  case atStart => exact ⟨0, rfl, Nat.zero_le _, HROWS.out⟩
  case round =>
    obtain ⟨k, rfl, hk, hrows⟩ := hrel
    clear HROWS
    have HROWS := Lib.hid hrows
    clear hrows
    by_cases hlt : k < n1
    · obtain ⟨h1, h2, h3, hbw⟩ := HROWS.out
      obtain ⟨ys, hys, hown, hbk⟩ := h1
      obtain ⟨g2, cap, hv, hg2, _⟩ := hown.form (by omega)
      obtain ⟨rfl, rfl⟩ : A1 = some ⟨g2, 0, none⟩ ∧ c1 = cap := by injection hv with q1 _ q3; exact ⟨q1, q3⟩
      clear hv
      obtain ⟨hc1, hf1⟩ := own_at hown (k : Int) (by omega) (by omega)
      rw [Int.toNat_natCast] at hc1 hf1
      have HG2 := Lib.hid hg2
      have HGK := Lib.hid (hbk g2 rfl)
      have hbk := Lib.hid hbk
      have HYS := Lib.hid hys
      have HOW := Lib.hid hown
      have h2 := Lib.hid h2
      have h3 := Lib.hid h3
      have HBW := Lib.hid hbw
      clear hg2 hys hown hbw HROWS
      go_wp2
      go_roundw
      case rel =>
        have hs := own_store HOW.out (k : Int) (Go.bits .xor .u8 (rd ys k) 255)
        rw [Int.toNat_natCast] at hs
        exact ⟨k + 1, by go_num, by omega, ⟨_, by rw [List.length_set]; exact HYS.out, hs.1, hbk.out⟩, h2.out.far (.inl (by have := HGK.out; have := HLE.out; show g2 < _; omega)) _, h3.out.far (.inl (by have := HGK.out; have := HLE.out; show g2 < _; omega)) _, HBW.out.setCell (by have := HG2.out; have := HLE.out; show _ ≤ g2; omega) _⟩
      case measure => simp [intOf]; omega
    · have hge : (n1 : Int) ≤ k := by omega
      clear hlt
      go_wp2
      obtain ⟨wo1, rfl⟩ : ∃ wo : World, wo = wr := ⟨_, rfl⟩
      go_loopw [16] (WRel w b1 b2 b3 b4 (.slice A1 n1 c1) (.slice A2 n2 c2) (.slice A3 n3 c3) n1 n2 n3 n2) (fun i _ => n2 - (intOf i).toNat)
      case atStart => exact ⟨0, rfl, Nat.zero_le _, HROWS.out⟩
      case round =>
        obtain ⟨k, rfl, hk, hrows⟩ := hrel
        clear HROWS
        have HROWS := Lib.hid hrows
        clear hrows
        by_cases hlt : k < n2
        · obtain ⟨h1, h2, h3, hbw⟩ := HROWS.out
          obtain ⟨ys, hys, hown, hbk⟩ := h2
          obtain ⟨g2, cap, hv, hg2, _⟩ := hown.form (by omega)
          obtain ⟨rfl, rfl⟩ : A2 = some ⟨g2, 0, none⟩ ∧ c2 = cap := by injection hv with q1 _ q3; exact ⟨q1, q3⟩
          clear hv
          obtain ⟨hc1, hf1⟩ := own_at hown (k : Int) (by omega) (by omega)
          rw [Int.toNat_natCast] at hc1 hf1
          have HG2 := Lib.hid hg2
          have HGK := Lib.hid (hbk g2 rfl)
          have hbk := Lib.hid hbk
          have HYS := Lib.hid hys
          have HOW := Lib.hid hown
          have h1 := Lib.hid h1
          have h3 := Lib.hid h3
          have HBW := Lib.hid hbw
          clear hg2 hys hown hbw HROWS
          go_wp2
          go_roundw
          case rel =>
            have hs := own_store HOW.out (k : Int) (Go.bits .xor .u8 (rd ys k) 255)
            rw [Int.toNat_natCast] at hs
            exact ⟨k + 1, by go_num, by omega, h1.out.far (.inr (by have := HG2.out; have := HLE.out; show _ ≤ g2; omega)) _, ⟨_, by rw [List.length_set]; exact HYS.out, hs.1, hbk.out⟩, h3.out.far (.inl (by have := HGK.out; have := HLE.out; show g2 < _; omega)) _, HBW.out.setCell (by have := HG2.out; have := HLE.out; show _ ≤ g2; omega) _⟩
          case measure => simp [intOf]; omega
        · have hge : (n2 : Int) ≤ k := by omega
          clear hlt
          go_wp2
          obtain ⟨wo2, rfl⟩ : ∃ wo : World, wo = wr := ⟨_, rfl⟩
          go_loopw [17] (WRel w b1 b2 b3 b4 (.slice A1 n1 c1) (.slice A2 n2 c2) (.slice A3 n3 c3) n1 n2 n3 n3) (fun i _ => n3 - (intOf i).toNat)
          case atStart => exact ⟨0, rfl, Nat.zero_le _, HROWS.out⟩
          case round =>
            obtain ⟨k, rfl, hk, hrows⟩ := hrel
            clear HROWS
            have HROWS := Lib.hid hrows
            clear hrows
            by_cases hlt : k < n3
            · obtain ⟨h1, h2, h3, hbw⟩ := HROWS.out
              obtain ⟨ys, hys, hown, hbk⟩ := h3
              obtain ⟨g2, cap, hv, hg2, _⟩ := hown.form (by omega)
              obtain ⟨rfl, rfl⟩ : A3 = some ⟨g2, 0, none⟩ ∧ c3 = cap := by injection hv with q1 _ q3; exact ⟨q1, q3⟩
              clear hv
              obtain ⟨hc1, hf1⟩ := own_at hown (k : Int) (by omega) (by omega)
              rw [Int.toNat_natCast] at hc1 hf1
              have HG2 := Lib.hid hg2
              have HGK := Lib.hid (hbk g2 rfl)
              have hbk := Lib.hid hbk
              have HYS := Lib.hid hys
              have HOW := Lib.hid hown
              have h1 := Lib.hid h1
              have h2 := Lib.hid h2
              have HBW := Lib.hid hbw
              clear hg2 hys hown hbw HROWS
              go_wp2
              go_roundw
              case rel =>
                have hs := own_store HOW.out (k : Int) (Go.bits .xor .u8 (rd ys k) 255)
                rw [Int.toNat_natCast] at hs
                exact ⟨k + 1, by go_num, by omega, h1.out.far (.inr (by have := HG2.out; have := HLE.out; show _ ≤ g2; omega)) _, h2.out.far (.inr (by have := HG2.out; have := HLE.out; show _ ≤ g2; omega)) _, ⟨_, by rw [List.length_set]; exact HYS.out, hs.1, hbk.out⟩, HBW.out.setCell (by have := HG2.out; have := HLE.out; show _ ≤ g2; omega) _⟩
              case measure => simp [intOf]; omega
            · have hge : (n3 : Int) ≤ k := by omega
              clear hlt
              have hcv2 := string_reads (c := c) HR.out (HROWS.out.2.2.2)
              rw [← HWAS.out] at hcv2
              go_wp2
              go_ret
              exact ⟨rfl, HROWS.out.2.2.2⟩
end Go.Proofs.Ytnpiicnhdpldaaa.Lb
