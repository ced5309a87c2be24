/-
  The walk of lex's escape. Condition: the library's variable internal/bytealg.MaxLen holds a number; the text is shorter than 3000000000 bytes.
-/
import Derived.Test.YtjecdciabpjgcaaDoorLxE
import Derived.Laws.Runes
namespace Go.Proofs.YtjecdciabpjgcaaDoor.Lx
set_option linter.unusedVariables false
set_option linter.unusedSimpArgs false
open Go.RowKit Go.Proofs.YtjecdciabpjgcaaDoorW.PrintWords

/-! ### What literal.Int makes of hex digits -/
theorem numK_lt (b : Nat) (hb : 1 ≤ b) : ∀ (l : List UInt8) (n m : Nat), (∀ c ∈ l, ishex c = true) → n ≤ 18446744073709551615 → numK b l n = some m → m ≤ 18446744073709551615
  | [], n, m, _, h, e => by
    obtain rfl := Option.some.inj e; exact h
  | c :: t, n, m, hh, h, e => by
    rw [numK_cons] at e
    split at e
    · cases e
    · rename_i h1
      refine numK_lt b hb t _ m (fun c hc => hh c (List.mem_cons_of_mem _ hc)) ?_ e
      have h2 : n ≤ (18446744073709551615 - dval c) / b := by omega
      have h3 := (Nat.le_div_iff_mul_le hb).1 h2
      have h4 := dval_lt c (hh c List.mem_cons_self)
      omega
theorem sign_0x (l : List UInt8) : signF (48 :: 120 :: l) = (false, 48 :: 120 :: l) := by
  unfold signF
  rw [if_neg (by simp [Lib.hasPrefix])]
  simp [Lib.trimPrefix, Lib.hasPrefix]
theorem hex_0x (l : List UInt8) : hexF (48 :: 120 :: l) = (true, l) := by
  unfold hexF Lib.trimPrefix
  simp [Lib.hasPrefix]
theorem int_hex64 (l : List UInt8) : intF 64 (48 :: 120 :: l) = if (rowF l true).2 = true then (match numK 16 (rowF l true).1 0 with | some n => (n, true) | none => (0, false)) else (0, false) := by
  rw [intF_eq, sign_0x]
  simp only [hex_0x]
  unfold intE
  by_cases hf : (rowF l true).2 = true
  · rw [if_pos ⟨by decide, hf⟩, if_pos hf]
    cases hk : numK 16 (rowF l true).1 0 with
    | none => rw [if_pos True.intro, hk]
    | some n =>
      have := numK_lt 16 (by decide) _ 0 n (rowF_hex l true) (by decide) hk
      rw [if_pos True.intro, hk]
      simp only
      rw [most_64, if_neg (by simp; omega), if_neg (by decide)]
  · rw [if_neg (fun h => hf h.2), if_neg hf]
theorem two_tab : ∀ a b : Fin 256, True := fun _ _ => trivial
theorem not95 (c : UInt8) (h : ishex c = true) : c ≠ 95 := by rintro rfl; exact absurd h (by decide)
theorem two_hex (a b : UInt8) (hb : b ≠ 95) : intF 8 [48, 120, a, b] = if ishex a = true ∧ ishex b = true then (16 * dval a + dval b, true) else (0, false) := by
  rw [intF_eq, sign_0x]
  simp only [hex_0x]
  by_cases h : ishex a = true ∧ ishex b = true
  · have h1 := not95 a h.1
    have hd : digs [a, b] = [a, b] := by unfold digs; rw [List.filter_cons_of_pos (by simpa using h1), List.filter_cons_of_pos (by simpa using hb)]; rfl
    have ho : odd [a, b] = false := by
      unfold odd Lib.hasPrefix Lib.hasSuffix Lib.contains
      simp [List.isPrefixOf, List.isSuffixOf, Lib.index, h1.symm, hb.symm]
    have hr : rowF [a, b] true = ([a, b], true) := by
      unfold rowF
      rw [hd, if_pos (by simp [isdig, h.1, h.2]), ho]
      rfl
    have da := dval_lt a h.1
    have db := dval_lt b h.2
    have hk : numK 16 [a, b] 0 = some (16 * dval a + dval b) := by
      rw [numK_cons, if_neg (by omega), numK_cons, if_neg (by omega)]
      simp [numK]
      omega
    rw [hr, if_pos h]
    unfold intE
    rw [if_pos ⟨by decide, rfl⟩, if_pos True.intro, hk]
    simp only
    rw [most_8, if_neg (by simp; omega), if_neg (by decide)]
  · have hr : (rowF [a, b] true).2 = false := by
      by_cases h1 : a = 95
      · subst h1
        unfold rowF
        split
        · have : odd [95, b] = true := by simp [odd, Lib.hasPrefix]
          rw [this]; simp
        · rfl
      · have hd : digs [a, b] = [a, b] := by unfold digs; rw [List.filter_cons_of_pos (by simpa using h1), List.filter_cons_of_pos (by simpa using hb)]; rfl
        unfold rowF
        rw [hd, if_neg (by simp only [isdig, List.all_cons, List.all_nil, Bool.and_true, if_true, Bool.and_eq_true]; exact h)]
    unfold intE
    rw [if_neg (by rw [hr]; simp), if_neg h]
theorem enc_utf8 (n : Nat) (h : n ≤ 1114111) (h2 : ¬ (55296 ≤ n ∧ n < 57344)) : Utf8.encode (n : Int) = ⟨(utf8 n).toArray⟩ := by
  have hv : Utf8.valid (n : Int) = true := by
    unfold Utf8.valid
    simp
    omega
  unfold Utf8.encode utf8
  simp only [hv, if_true, Int.toNat_natCast]
  by_cases h1 : n < 128
  · rw [if_pos h1, if_pos h1]
  rw [if_neg h1, if_neg h1]
  by_cases h3 : n < 2048
  · rw [if_pos h3, if_pos h3]
  rw [if_neg h3, if_neg h3]
  by_cases h4 : n < 65536
  · rw [if_pos h4, if_pos h4]
  rw [if_neg h4, if_neg h4]

/-! ### escape, walked -/
theorem cut_ix (c : UInt8) : ∀ l : List UInt8, (Lib.indexByte l c = -1 → l.takeWhile (· != c) = l) ∧ ∀ o : Nat, Lib.indexByte l c = (o : Int) → l.takeWhile (· != c) = l.take o ∧ o < l.length
  | [] => ⟨fun _ => rfl, fun o h => by simp [Lib.indexByte] at h⟩
  | b :: l => by
    obtain ⟨i1, i2⟩ := cut_ix c l
    have hge := Lib.indexByte_ge l c
    unfold Lib.indexByte
    by_cases hb : (b == c) = true
    · rw [if_pos hb]
      refine ⟨fun h => by omega, fun o h => ?_⟩
      obtain rfl : o = 0 := by omega
      have : (b != c) = false := by simp only [bne, hb]; rfl
      exact ⟨by rw [List.takeWhile_cons, this]; rfl, by simp⟩
    · rw [if_neg hb]
      have hbc : (b != c) = true := by simp only [bne]; simpa using hb
      rw [List.takeWhile_cons, hbc, if_pos rfl]
      by_cases h1 : Lib.indexByte l c = -1
      · rw [if_pos (beq_iff_eq.2 h1)]
        exact ⟨fun _ => by rw [i1 h1], fun o h => by omega⟩
      · rw [if_neg (fun h => h1 (beq_iff_eq.1 h))]
        refine ⟨fun h => by omega, fun o h => ?_⟩
        obtain ⟨e1, e2⟩ := i2 (o - 1) (by omega)
        obtain ⟨o, rfl⟩ : ∃ k, o = k + 1 := ⟨o - 1, by omega⟩
        exact ⟨by rw [e1]; rfl, by simp at e2 ⊢; omega⟩
theorem cut_w (l : List UInt8) (c : UInt8) : ∃ x, Lib.cut l [c] = (l.takeWhile (· != c), x, decide ((l.takeWhile (· != c)).length < l.length)) := by
  unfold Lib.cut
  rw [index_one]
  have hge := Lib.indexByte_ge l c
  obtain ⟨i1, i2⟩ := cut_ix c l
  by_cases h : Lib.indexByte l c = -1
  · rw [i1 h, if_neg (by omega)]
    exact ⟨_, by rw [decide_eq_false (by omega)]⟩
  · obtain ⟨o, ho⟩ : ∃ o : Nat, Lib.indexByte l c = o := ⟨(Lib.indexByte l c).toNat, by omega⟩
    obtain ⟨e1, e2⟩ := i2 o ho
    rw [e1, ho, if_pos (by omega), Int.toNat_natCast]
    exact ⟨_, by rw [decide_eq_true (by rw [List.length_take]; omega)]⟩
theorem cut_c (s : ByteArray) (c : UInt8) (ds : List UInt8) (b : Bool) (h1 : s.data.toList.takeWhile (· != c) = ds) (h2 : decide (ds.length < s.data.toList.length) = b) (hs : s.size ≤ 4000000000) (w : World) (hm : ML w) :
    Calls Tryd.prog 41 #[.string s, .string ⟨#[c]⟩] w fun e w' => (∃ x, e = .returned (.tuple #[.string ⟨ds.toArray⟩, x, .bool b])) ∧ Below w.heap.size w w' := by
  obtain ⟨m, hm⟩ := hm
  obtain ⟨x, hx⟩ := cut_w s.data.toList c
  refine (Tryd.strings_Cut s ⟨#[c]⟩ m w (by omega) hm).mono fun e w' hh => ?_
  obtain ⟨he, n, rfl⟩ := hh
  have e1 : (⟨#[c]⟩ : ByteArray).data.toList = [c] := rfl
  rw [e1, hx] at he
  exact ⟨⟨.string ⟨x.toArray⟩, by rw [he, ← h2, ← h1]⟩, pw_below_drewN (Below.refl _ _) n⟩
structure EscQ (w : World) (r : Option (List UInt8 × Nat)) (e : Ending) (w' : World) : Prop where mk ::
  (out : e = .returned (.tuple #[.string ⟨(r.getD ([], 0)).1.toArray⟩, .int .i64 ((r.getD ([], 0)).2 : Int)]) ∧ Below w.heap.size w w')
theorem EscQ.none {w w' : World} {r : Option (List UInt8 × Nat)} (h : r = none) (hb : Below w.heap.size w w') : EscQ w r (.returned (.tuple #[.string ⟨#[]⟩, .int .i64 0])) w' := by
  subst h; exact ⟨rfl, hb⟩
theorem EscQ.some {w w' : World} {r : Option (List UInt8 × Nat)} {l : List UInt8} {n : Nat} {m : Int} (h : r = some (l, n)) (hm : m = (n : Int)) (hb : Below w.heap.size w w') : EscQ w r (.returned (.tuple #[.string ⟨l.toArray⟩, .int .i64 m])) w' := by
  subst h; subst hm; exact ⟨rfl, hb⟩
theorem at0 (s : ByteArray) (c : UInt8) (t : List UInt8) (h : s.data.toList = c :: t) : ∃ h0 : 0 < s.size, s[0] = c := by
  have h0 : 0 < s.size := by rw [← len_data, h]; simp
  refine ⟨h0, ?_⟩
  have := drop_at s 0 h0
  rw [List.drop_zero, h] at this
  exact (List.cons.inj this).1.symm
theorem esc_sh (c x : UInt8) (t : List UInt8) (i : Nat) (hi : i ≤ 5) (hc : [116, 110, 114, 34, 39, 92][i]? = some c) (hx : [9, 10, 13, 34, 39, 92][i]? = some x) : esc (c :: t) = some ([x], 1) := by
  have : i = 0 ∨ i = 1 ∨ i = 2 ∨ i = 3 ∨ i = 4 ∨ i = 5 := by omega
  rcases this with rfl | rfl | rfl | rfl | rfl | rfl <;> (simp at hc hx; subst hc; subst hx; rfl)
theorem esc_short (s : ByteArray) (c x : UInt8) (t : List UInt8) (i : Nat) (hi : i ≤ 5) (hc : [116, 110, 114, 34, 39, 92][i]? = some c) (hx : [9, 10, 13, 34, 39, 92][i]? = some x) (hL : s.data.toList = c :: t)
    (hsl : ∀ W, (Instr.slice 9 (.string ⟨#[9, 10, 13, 34, 39, 92]⟩) (some (.int .i64 (i : Int))) (some (.int .i64 ((i : Int) + 1))) none).run Tryd.prog W = .ok (.string ⟨#[x]⟩) W)
    (hix : Lib.indexByte [116, 110, 114, 34, 39, 92] c = (i : Int)) (w : World) :
    Calls Tryd.prog 35 #[.string s] w (EscQ w (esc s.data.toList)) := by
  obtain ⟨h0, hs0⟩ := at0 s c t hL
  have HR : Hid (esc s.data.toList = some ([x], 1)) := Lib.hid (by rw [hL]; exact esc_sh c x t i hi hc hx)
  generalize esc s.data.toList = R at *
  have hne : s.toList.isEmpty = false := by rw [Go.ByteArray.toList_eq, hL]; rfl
  have h0' : 0 < (s.size : Int) := by omega
  have HI := Lib.hid (fun w => ixb_c [116, 110, 114, 34, 39, 92] s[0].toNat (i : Int) (by rw [hs0]; simpa using hix) w)
  have hi0 : 0 ≤ (i : Int) := by omega
  clear hc hx hL hix hs0
  go_enter Tryd.func35, Tryd.ntmps35
  go_wp2_with (go_at_call 26; refine (HI.out _).mono ?_; rintro e w' ⟨rfl, rfl⟩)
  go_ret2
  exact EscQ.some HR.out rfl (Below.refl _ _)

theorem esc_nil (s : ByteArray) (hL : s.data.toList = []) (w : World) : Calls Tryd.prog 35 #[.string s] w (EscQ w none) := by
  have hne : s.toList.isEmpty = true := by rw [Go.ByteArray.toList_eq, hL]; rfl
  clear hL
  go_enter Tryd.func35, Tryd.ntmps35
  go_wp2
  go_ret2
  exact EscQ.none rfl (Below.refl _ _)

/-- None of the six short ones. -/
def longE (c : UInt8) : Prop := c ≠ 116 ∧ c ≠ 110 ∧ c ≠ 114 ∧ c ≠ 34 ∧ c ≠ 39 ∧ c ≠ 92
theorem long_ix (c : UInt8) (h : longE c) : Lib.indexByte [116, 110, 114, 34, 39, 92] c = -1 := by
  have ht : ∀ n : Fin 256, (n.val.toUInt8 ≠ 116 ∧ n.val.toUInt8 ≠ 110 ∧ n.val.toUInt8 ≠ 114 ∧ n.val.toUInt8 ≠ 34 ∧ n.val.toUInt8 ≠ 39 ∧ n.val.toUInt8 ≠ 92) → Lib.indexByte [116, 110, 114, 34, 39, 92] n.val.toUInt8 = -1 := by decide +kernel
  have := ht ⟨c.toNat, c.toNat_lt⟩
  have hc : c.toNat.toUInt8 = c := by simp
  simp only [hc] at this
  exact this h
theorem esc_uni_eq (c : UInt8) (t : List UInt8) (h : longE c) (hu : Lib.hasPrefix (c :: t) [117, 123] = true) :
    esc (c :: t) = (let u := (c :: t).drop 2
      let ds := u.takeWhile (· != 125)
      if ds.length < u.length ∧ (rowF ds true).2 = true then
        match numK 16 (rowF ds true).1 0 with
        | none => none
        | some n => if n ≤ 1114111 ∧ ¬ (55296 ≤ n ∧ n < 57344) then some (utf8 n, ds.length + 3) else none
      else none) := by
  obtain ⟨h1, h2, h3, h4, h5, h6⟩ := h
  simp only [esc]
  rw [if_neg h1, if_neg h2, if_neg h3, if_neg h4, if_neg h5, if_neg h6, if_pos hu]
  cases numK 16 (rowF (List.takeWhile (fun x => x != 125) (List.drop 2 (c :: t))) true).fst 0 <;> rfl
theorem esc_hex_eq (c d : UInt8) (t : List UInt8) (h : longE c) (hu : Lib.hasPrefix (c :: d :: t) [117, 123] = false) :
    esc (c :: d :: t) = if ishex c = true ∧ ishex d = true then some ([(16 * dval c + dval d).toUInt8], 2) else none := by
  obtain ⟨h1, h2, h3, h4, h5, h6⟩ := h
  simp only [esc]
  rw [if_neg h1, if_neg h2, if_neg h3, if_neg h4, if_neg h5, if_neg h6, hu, if_neg (by decide)]
theorem esc_one_eq (c : UInt8) (h : longE c) : esc [c] = none := by
  obtain ⟨h1, h2, h3, h4, h5, h6⟩ := h
  simp only [esc]
  rw [if_neg h1, if_neg h2, if_neg h3, if_neg h4, if_neg h5, if_neg h6, if_neg (by simp [Lib.hasPrefix, List.isPrefixOf])]

theorem app_data (a : List UInt8) (b : List UInt8) : ((⟨a.toArray⟩ : ByteArray) ++ ⟨b.toArray⟩).data.toList = a ++ b := by
  simp
theorem app_size (a : List UInt8) (b : List UInt8) : ((⟨a.toArray⟩ : ByteArray) ++ ⟨b.toArray⟩).size = a.length + b.length := by
  rw [← len_data, app_data, List.length_append]
end Go.Proofs.YtjecdciabpjgcaaDoor.Lx
