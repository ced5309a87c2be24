/-
  Walks of literal's value, number, sign and row (chapter 8's integers as texts). Condition: the library's variable internal/bytealg.MaxLen holds a number (where a text is searched for two bytes).
-/
import Derived.Test.YtjecdciabpjgcaaDoorLxS
import Derived.Test.YtjecdciabpjgcaaDoorLxG
import Derived.Laws.RangeAny
import Derived.Lib.Hide
import Derived.Lib.Replace
import Derived.LoopTactic
import Derived.WalkSpells
namespace Go.Proofs.YtjecdciabpjgcaaDoor.Lx
set_option linter.unusedVariables false
set_option linter.unusedSimpArgs false
open Go.RowKit Go.Proofs.YtjecdciabpjgcaaDoorW.PrintWords

/-- The library's variable MaxLen holds a number. -/
def ML (w : World) : Prop := ∃ m, w.cell? ⟨0, 0, none⟩ = some (.int .i64 m)
theorem ML.below {w w' : World} (h : ML w) (hb : Below w.heap.size w w') : ML w' := by
  obtain ⟨m, hm⟩ := h
  exact ⟨m, by rw [hb.cell (p := ⟨0, 0, none⟩) (World.block_lt_of_cell? w _ hm)]; exact hm⟩
theorem bel0 (w : World) : Below w.heap.size w w := Below.refl _ _

/-! ### Bytes of a text -/
theorem len_data (s : ByteArray) : s.data.toList.length = s.size := (Lib.size_eq s).symm
theorem drop_at (s : ByteArray) (p : Nat) (h : p < s.size) : s.data.toList.drop p = s[p] :: s.data.toList.drop (p + 1) := by
  rw [List.drop_eq_getElem_cons (by rw [len_data]; exact h)]; rfl
theorem drop_end (s : ByteArray) (p : Nat) (h : s.size ≤ p) : s.data.toList.drop p = [] := List.drop_of_length_le (by rw [len_data]; exact h)

/-! ### value, number -/
theorem dval_lt (c : UInt8) (h : ishex c = true) : dval c < 16 := by
  have : ∀ n : Fin 256, ishex n.val.toUInt8 = true → dval n.val.toUInt8 < 16 := by decide +kernel
  have := this ⟨c.toNat, c.toNat_lt⟩
  simpa using this (by simpa using h)
theorem hex_bounds (c : UInt8) (h : ishex c = true) : (48 ≤ c.toNat ∧ c.toNat ≤ 57 ∧ dval c = c.toNat - 48) ∨ (65 ≤ c.toNat ∧ c.toNat ≤ 70 ∧ dval c = c.toNat - 55) ∨ (97 ≤ c.toNat ∧ c.toNat ≤ 102 ∧ dval c = c.toNat - 87) := by
  have : ∀ n : Fin 256, ishex n.val.toUInt8 = true → (48 ≤ n.val ∧ n.val ≤ 57 ∧ dval n.val.toUInt8 = n.val - 48) ∨ (65 ≤ n.val ∧ n.val ≤ 70 ∧ dval n.val.toUInt8 = n.val - 55) ∨ (97 ≤ n.val ∧ n.val ≤ 102 ∧ dval n.val.toUInt8 = n.val - 87) := by decide +kernel
  have := this ⟨c.toNat, c.toNat_lt⟩
  simpa using this (by simpa using h)
theorem value_c (x : Nat) (d : Nat) (w : World) (h : (48 ≤ x ∧ x ≤ 57 ∧ d = x - 48) ∨ (65 ≤ x ∧ x ≤ 70 ∧ d = x - 55) ∨ (97 ≤ x ∧ x ≤ 102 ∧ d = x - 87)) :
    Calls Tryd.prog 53 #[.int .i32 (x : Int)] w fun e w' => e = .returned (.int .u64 (d : Int)) ∧ w = w' := by
  rcases h with ⟨h1, h2, h3⟩ | ⟨h1, h2, h3⟩ | ⟨h1, h2, h3⟩
  · have e : (d : Int) = (x : Int) - 48 := by omega
    rw [e]
    have c1 : (x : Int) ≤ 57 := by omega
    have c2 : 48 ≤ (x : Int) := by omega
    clear h1 h2 h3 e
    go_enter Tryd.func53, Tryd.ntmps53
    go_wp2
    go_ret
    exact ⟨rfl, rfl⟩
  · have e : (d : Int) = (x : Int) - 65 + 10 := by omega
    rw [e]
    have c1 : 57 < (x : Int) := by omega
    have c2 : (x : Int) ≤ 70 := by omega
    have c3 : 65 ≤ (x : Int) := by omega
    clear h1 h2 h3 e
    go_enter Tryd.func53, Tryd.ntmps53
    go_wp2
    go_ret
    exact ⟨rfl, rfl⟩
  · have e : (d : Int) = (x : Int) - 97 + 10 := by omega
    rw [e]
    have c1 : 70 < (x : Int) := by omega
    have c2 : (x : Int) ≤ 102 := by omega
    have c3 : 97 ≤ (x : Int) := by omega
    clear h1 h2 h3 e
    go_enter Tryd.func53, Tryd.ntmps53
    go_wp2
    go_ret
    exact ⟨rfl, rfl⟩

/-- A number's answer. -/
def numR : Option Nat → Value × Value
  | none => (.int .u64 0, .bool false)
  | some n => (.int .u64 (n : Int), .bool true)
structure NumQ (s : ByteArray) (w : World) (R : Option Nat) (e : Ending) (w' : World) : Prop where mk ::
  (out : e = .returned (.tuple #[(numR R).1, (numR R).2]) ∧ Below w.heap.size w w')
theorem iter_bel (w : World) (s : ByteArray) (pos : Nat) : Below w.heap.size w (w.iter s pos) := (Below.refl _ _).alloc (Nat.le_refl _) _
theorem numK_cons (b : Nat) (c : UInt8) (t : List UInt8) (n : Nat) : numK b (c :: t) n = if (18446744073709551615 - dval c) / b < n then none else numK b t (n * b + dval c) := rfl
theorem wr_num (n b d : Nat) (h : n * b + d ≤ 18446744073709551615) : IntKind.u64.wrap (IntKind.u64.wrap ((n : Int) * b) + d) = ((n * b + d : Nat) : Int) := by
  have e : (n : Int) * b = ((n * b : Nat) : Int) := by push_cast; rfl
  rw [IntKind.wrap_u64, IntKind.wrap_u64, e]
  generalize n * b = m at *
  omega
set_option maxRecDepth 100000 in
theorem number_c (s : ByteArray) (b : Nat) (hb : b = 10 ∨ b = 16) (hd : ∀ c ∈ s.data.toList, ishex c = true) (hs : s.size ≤ 140737488351232) (w : World) (R : Option Nat) (hR : numK b s.data.toList 0 = R) :
    Calls Tryd.prog 47 #[.string s, .int .u64 (b : Int)] w (NumQ s w R) := by
  have HR := Lib.hid hR
  have HD := Lib.hid hd
  have hb1 : 10 ≤ b := by omega
  have hb2 : b ≤ 16 := by omega
  clear hR hd hb
  go_enter Tryd.func47, Tryd.ntmps47
  go_wp2
  go_loopw [6] (fun v6 w' => ∃ pos n : Nat, v6 = .int .u64 (n : Int) ∧ n < 18446744073709551616 ∧ pos ≤ s.size ∧ w' = w.iter s pos ∧ Hid (numK b (s.data.toList.drop pos) n = R)) (fun _ w' => s.size - w'.iterPos w.heap.size)
  case atStart => exact ⟨0, 0, rfl, by decide, Nat.zero_le _, rfl, HR⟩
  case round =>
    obtain ⟨pos, n, rfl, hn, hps, rfl, hc⟩ := hrel
    by_cases hp : pos < s.size
    · have hx := HD.out s[pos] (by
        have := drop_at s pos hp
        exact List.mem_of_mem_drop (i := pos) (by rw [this]; exact List.mem_cons_self))
      have hbd := hex_bounds _ hx
      have hdl := dval_lt _ hx
      have hdec := decode_ascii s pos hp (by omega)
      have hc2 := hc.out
      rw [drop_at s pos hp, numK_cons] at hc2
      have hnx : ∀ ty, (Instr.next (.pointer (some ⟨w.heap.size, 0, none⟩)) true ty).run Tryd.prog (w.iter s pos) = _ := fun ty => run_next_any w s pos ty hp
      rw [hdec] at hnx
      have HV := Lib.hid (fun w => value_c _ _ w hbd)
      generalize hxx : s[pos].toNat = x at *
      generalize hdd : dval s[pos] = d at *
      clear hxx hx hdec hbd
      have HC2 := Lib.hid hc2
      clear hc2
      by_cases hov : (18446744073709551615 - d) / b < n
      · have hov' : (18446744073709551615 - (d : Int)) / (b : Int) < (n : Int) := by
          have : (18446744073709551615 - (d : Int)) / (b : Int) = (((18446744073709551615 - d) / b : Nat) : Int) := by
            rw [Int.natCast_ediv]; congr 1; omega
          rw [this]; exact Int.ofNat_lt.2 hov
        have HE : Hid (R = none) := Lib.hid (by have := HC2.out; rw [if_pos hov] at this; exact this.symm)
        clear hov
        go_wp2_with (go_at_call 53; refine (HV.out _).mono ?_; rintro e w' ⟨rfl, rfl⟩)
        go_ret2
        rw [HE.out]
        exact ⟨rfl, iter_bel _ _ _⟩
      · have hq : (((18446744073709551615 - d) / b : Nat) : Int) = (18446744073709551615 - (d : Int)) / (b : Int) := by
          rw [Int.natCast_ediv]; congr 1; omega
        have hov' : (n : Int) ≤ (18446744073709551615 - (d : Int)) / (b : Int) := by omega
        have hfit : n * b + d ≤ 18446744073709551615 := by
          have h1 : n ≤ (18446744073709551615 - d) / b := by omega
          have h2 := (Nat.le_div_iff_mul_le (by omega : 0 < b)).1 h1
          omega
        have hm0 : 0 ≤ (n : Int) * (b : Int) := Int.mul_nonneg (by omega) (by omega)
        have HM1 := Lib.hid hfit
        clear hfit hm0
        have HE : Hid (numK b (s.data.toList.drop (pos + 1)) (n * b + d) = R) := Lib.hid (by have := HC2.out; rw [if_neg hov] at this; exact this)
        clear hov hq
        go_wp2_with (go_at_call 53; refine (HV.out _).mono ?_; rintro e w' ⟨rfl, rfl⟩)
        go_roundw
        case rel =>
          exact ⟨pos + 1, n * b + d, by rw [wr_num _ _ _ HM1.out], by have := HM1.out; omega, by omega, rfl, HE⟩
        case measure => rw [World.iterPos_iter, World.iterPos_iter]; omega
    · have hnx : ∀ ty, (Instr.next (.pointer (some ⟨w.heap.size, 0, none⟩)) true ty).run Tryd.prog (w.iter s pos) = _ := fun ty => run_next_end w s pos ty hp
      have HE : Hid (R = some n) := Lib.hid (by have := hc.out; rw [drop_end s pos (by omega)] at this; exact this.symm)
      go_wp2
      go_ret2
      rw [HE.out]
      exact ⟨rfl, iter_bel _ _ _⟩

/-! ### The library's contracts, with their answers as letters -/
theorem hasp_c (s : ByteArray) (p : List UInt8) (b : Bool) (h : Lib.hasPrefix s.data.toList p = b) (w : World) :
    Calls Tryd.prog 34 #[.string s, .string ⟨p.toArray⟩] w fun e w' => e = .returned (.bool b) ∧ w = w' :=
  (Tryd.strings_HasPrefix s ⟨p.toArray⟩ w).mono fun e w' hh => ⟨by rw [hh.1, ← h], hh.2.symm⟩
theorem hass_c (s : ByteArray) (p : List UInt8) (b : Bool) (h : Lib.hasSuffix s.data.toList p = b) (hs : s.size ≤ 140737488351232) (w : World) :
    Calls Tryd.prog 51 #[.string s, .string ⟨p.toArray⟩] w fun e w' => e = .returned (.bool b) ∧ w = w' :=
  (Tryd.strings_HasSuffix s ⟨p.toArray⟩ w (by omega)).mono fun e w' hh => ⟨by rw [hh.1, ← h], hh.2.symm⟩
theorem cutp_c (s : ByteArray) (p : List UInt8) (b : Bool) (r : List UInt8) (h : Lib.hasPrefix s.data.toList p = b) (h2 : Lib.trimPrefix s.data.toList p = r) (w : World) :
    Calls Tryd.prog 40 #[.string s, .string ⟨p.toArray⟩] w fun e w' => e = .returned (.tuple #[.string ⟨r.toArray⟩, .bool b]) ∧ w = w' :=
  (Tryd.strings_CutPrefix s ⟨p.toArray⟩ w).mono fun e w' hh => ⟨by rw [hh.1, ← h, ← h2], hh.2.symm⟩
theorem trimp_c (s : ByteArray) (p : List UInt8) (r : List UInt8) (h2 : Lib.trimPrefix s.data.toList p = r) (w : World) :
    Calls Tryd.prog 49 #[.string s, .string ⟨p.toArray⟩] w fun e w' => e = .returned (.string ⟨r.toArray⟩) ∧ w = w' :=
  (Tryd.strings_TrimPrefix s ⟨p.toArray⟩ w).mono fun e w' hh => ⟨by rw [hh.1, ← h2], hh.2.symm⟩
theorem ixb_c (p : List UInt8) (x : Nat) (i : Int) (h : Lib.indexByte p x.toUInt8 = i) (w : World) :
    Calls Tryd.prog 26 #[.string ⟨p.toArray⟩, .int .u8 (x : Int)] w fun e w' => e = .returned (.int .i64 i) ∧ w = w' :=
  (Tryd.strings_IndexByte ⟨p.toArray⟩ (x : Int) w).mono fun e w' hh => ⟨by rw [hh.1, ← h]; rfl, hh.2.symm⟩
theorem cont_c (s : ByteArray) (p : List UInt8) (b : Bool) (h : Lib.contains s.data.toList p = b) (hs : s.size ≤ 4000000000) (w : World) (hm : ML w) :
    Calls Tryd.prog 52 #[.string s, .string ⟨p.toArray⟩] w fun e w' => e = .returned (.bool b) ∧ w = w' := by
  obtain ⟨m, hm⟩ := hm
  exact (Tryd.strings_Contains s ⟨p.toArray⟩ m w (by omega) hm).mono fun e w' hh => ⟨by rw [hh.1, ← h], hh.2.symm⟩
theorem index_one : ∀ (l : List UInt8) (c : UInt8), Lib.index l [c] = Lib.indexByte l c
  | [], c => rfl
  | b :: l, c => by
    have e : ([c].isPrefixOf (b :: l)) = (b == c) := by
      simp only [List.isPrefixOf]
      rw [Bool.and_true]
      cases h : (c == b)
      · have : c ≠ b := by simpa using h
        exact (beq_eq_false_iff_ne.2 (Ne.symm this)).symm
      · have : c = b := by simpa using h
        rw [this]; exact (beq_self_eq_true b).symm
    unfold Lib.index Lib.indexByte
    rw [e, index_one l c]
theorem filter_none (c : UInt8) (l : List UInt8) (h : ∀ k : Nat, l[k]? ≠ some c) : l.filter (· != c) = l := by
  rw [List.filter_eq_self]
  intro x hx
  obtain ⟨k, hk, e⟩ := List.getElem_of_mem hx
  have := h k
  rw [List.getElem?_eq_getElem hk, e] at this
  simp only [bne_iff_ne, ne_eq]
  intro e2
  exact this (by rw [e2])
theorem count_filter (c : UInt8) : ∀ (n : Nat) (l : List UInt8), l.length ≤ n → Lib.replaceK [c] [] (Lib.count l [c]) l = l.filter (· != c) := by
  intro n
  induction n with
  | zero =>
    intro l hl
    obtain rfl : l = [] := List.eq_nil_of_length_eq_zero (by omega)
    rfl
  | succ n ih =>
    intro l hl
    by_cases hm : Lib.index l [c] = -1
    · rw [Lib.count_miss hm]
      have h0 := hm
      rw [index_one] at h0
      exact (filter_none c l (Lib.indexByte_none h0)).symm
    · obtain ⟨i, hi⟩ : ∃ i : Nat, Lib.index l [c] = i := ⟨(Lib.index l [c]).toNat, by have := Lib.index_ge l [c]; omega⟩
      have hi2 := hi
      rw [index_one] at hi2
      obtain ⟨h1, h2⟩ := Lib.indexByte_some hi2
      have hlt : i < l.length := by
        rcases Nat.lt_or_ge i l.length with h | h
        · exact h
        · rw [List.getElem?_eq_none h] at h1; cases h1
      rw [Lib.count_hit (by simp) hi, Nat.add_comm, Lib.replaceK_hit _ _ _ _ i hi]
      show l.take i ++ [] ++ Lib.replaceK [c] [] (Lib.count (l.drop (i + 1)) [c]) (l.drop (i + 1)) = _
      rw [ih (l.drop (i + 1)) (by rw [List.length_drop]; omega), List.append_nil]
      have hl2 : l = l.take i ++ c :: l.drop (i + 1) := by
        have e1 : l[i] = c := by rw [List.getElem?_eq_getElem hlt] at h1; exact Option.some.inj h1
        conv => lhs; rw [← List.take_append_drop i l, List.drop_eq_getElem_cons hlt, e1]
      conv => rhs; rw [hl2, List.filter_append, List.filter_cons_of_neg (by simp)]
      congr 1
      symm
      refine filter_none c _ (fun k hk => ?_)
      rw [List.getElem?_take] at hk
      split at hk
      · exact h2 k (by omega) hk
      · cases hk
theorem repl_digs (l : List UInt8) : Lib.replaceAll l [95] [] = digs l := by
  unfold Lib.replaceAll Lib.replace Lib.replaceNum
  rw [if_neg (by decide), if_pos (.inl (by decide))]
  exact count_filter 95 l.length l (Nat.le_refl _)
theorem repl_c (s : ByteArray) (r : List UInt8) (h : digs s.data.toList = r) (hs : s.size ≤ 4000000000) (w : World) (hm : ML w) :
    Calls Tryd.prog 50 #[.string s, .string ⟨#[95]⟩, .string ⟨#[]⟩] w fun e w' => e = .returned (.string ⟨r.toArray⟩) ∧ Below w.heap.size w w' := by
  obtain ⟨m, hm⟩ := hm
  refine (Tryd.strings_ReplaceAll s ⟨#[95]⟩ ⟨#[]⟩ m w (by omega) hm (by decide) (by
    have : (⟨#[]⟩ : ByteArray).size = 0 := rfl
    rw [this, Nat.mul_zero]; omega)).mono fun e w' hh => ⟨?_, hh.2⟩
  rw [hh.1, ← h, ← repl_digs]

/-! ### sign, row -/
theorem sign_c (s : ByteArray) (neg : Bool) (r : List UInt8) (h : signF s.data.toList = (neg, r)) (w : World) :
    Calls Tryd.prog 45 #[.string s] w fun e w' => e = .returned (.tuple #[.bool neg, .string ⟨r.toArray⟩]) ∧ w = w' := by
  unfold signF at h
  by_cases hp : Lib.hasPrefix s.data.toList [45] = true
  · rw [if_pos hp] at h
    obtain ⟨rfl, rfl⟩ := Prod.mk.inj h
    have HC := Lib.hid (fun w => cutp_c s [45] true (s.data.toList.drop 1) hp (by unfold Lib.trimPrefix; rw [if_pos hp]; rfl) w)
    clear h hp
    generalize s.data.toList.drop 1 = r at *
    go_enter Tryd.func45, Tryd.ntmps45
    go_wp2_with (go_at_call 40; refine (HC.out _).mono ?_; rintro e w' ⟨rfl, rfl⟩)
    go_ret2
    exact ⟨rfl, rfl⟩
  · have hp' : Lib.hasPrefix s.data.toList [45] = false := by simpa using hp
    rw [if_neg hp] at h
    obtain ⟨rfl, rfl⟩ := Prod.mk.inj h
    have HC := Lib.hid (fun w => cutp_c s [45] false _ hp' rfl w)
    have HT := Lib.hid (fun w => trimp_c s [43] _ rfl w)
    clear h hp hp'
    generalize Lib.trimPrefix s.data.toList [43] = r at *
    generalize Lib.trimPrefix s.data.toList [45] = r2 at *
    go_enter Tryd.func45, Tryd.ntmps45
    go_wp2_with (first | (go_at_call 40; refine (HC.out _).mono ?_; rintro e w' ⟨rfl, rfl⟩) | (go_at_call 49; refine (HT.out _).mono ?_; rintro e w' ⟨rfl, rfl⟩))
    go_ret2
    exact ⟨rfl, rfl⟩
end Go.Proofs.YtjecdciabpjgcaaDoor.Lx
