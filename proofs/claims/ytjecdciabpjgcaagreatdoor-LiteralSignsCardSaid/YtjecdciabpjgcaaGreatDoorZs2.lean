/-
  Whole numbers as rows of words, the lowest first: what is done with them (chapter 8's long numbers). No program in sight.
  What chapter 18 (lex) and the integers of chapter 8 (literal) come to, as plain functions on lists of bytes: space, strings, words, trees. No program in sight.
  DERIVED: THE SHELF's CONTRACTS AT THIS DUMP, IN PLAIN WORDS (tools/lay-plain.mjs out of 'YtjecdciabpjgcaaGreatDoorShelf.lean', which tools/lay-shelf.mjs wrote): THE SAME DECLARATIONS UNDER THE SAME NAMES: 'import', 'namespace', 'open', 'def', 'theorem' AND NOTHING ELSE: no command of the shelf's: FOR A HAND-IN. Each laying: the table of numbers ('.._ren') and one theorem, a field a fact of the dump's own or the kernel's comparison; each contract: ONE APPLICATION.
  The contracts of strings.IndexByte, HasPrefix, CutPrefix, TrimPrefix (the shelf's, laid at this program) in the form in which the kit's print uses a function's contract. No condition.
  Walks of literal's value, number, sign and row (chapter 8's integers as texts). Condition: the library's variable internal/bytealg.MaxLen holds a number (where a text is searched for two bytes).
  The walk of literal's row. Condition: the library's variable internal/bytealg.MaxLen holds a number; the text is shorter than 4000000000 bytes.
  The walk of literal.Int. Condition: the library's variable internal/bytealg.MaxLen holds a number; the text is shorter than 4000000000 bytes.
  The walks of chapter 8's long numbers: cut, below, bits. Condition: what comes in is a row of words.
-/
import Derived.Lib.BitFns
import Derived.Lib.Strings
import Derived.Lib.IndexMore
import Derived.Lib.Bytealg
import Derived.Shelf.Strings.Trim
import Derived.Shelf.Small.Bits
import Derived.Shelf.Small.Strs
import Derived.Shelf.Small.Wraps
import Derived.Shelf.Strconv.Itoa0
import Derived.Shelf.Strconv.Itoa1
import Derived.Shelf.LaysM
import Derived.Shelf.Strconv.Itoa2
import Derived.Shelf.Strconv.Itoa3
import Derived.Shelf.Strconv.Itoa4
import Derived.Shelf.Strings.Search1
import Derived.Shelf.Strings.Search2
import Derived.Shelf.Strings.Search3
import Derived.Shelf.Strings.Cut
import Derived.Shelf.Strings.Prefix
import Derived.Shelf.Strings.Replace
import Derived.Shelf.Strings.Runes
import Derived.Shelf.Strings.AsciiSet
import Derived.Shelf.Bits.Mul64
import Derived.Shelf.Slices.Turned
import Derived.Test.YtjecdciabpjgcaaGreatDoorProg
import Derived.Laws.RangeAny
import Derived.Lib.Hide
import Derived.Lib.Replace
import Derived.LoopTactic
import Derived.WalkSpells
import Derived.Laws.BitsAllLaws
import Derived.Laws.BitsLemmas
import Derived.Test.YtjecdciabpjgcaaGreatDoorZs0
namespace Go.Proofs.YtjecdciabpjgcaaGreatDoor.Lz
set_option linter.unusedVariables false
set_option linter.unusedSimpArgs false
def wds (B : Nat) (n : Nat) : List Nat := if h : 2 ≤ B ∧ 0 < n then n % B :: wds B (n / B) else []
termination_by n
decreasing_by exact Nat.div_lt_self h.2 (by omega)
theorem wds_zero (B : Nat) : wds B 0 = [] := by rw [wds]; simp
theorem wds_pos (B n : Nat) (hB : 2 ≤ B) (h : 0 < n) : wds B n = n % B :: wds B (n / B) := by rw [wds, dif_pos ⟨hB, h⟩]
theorem wds_nil (B n : Nat) (hB : 2 ≤ B) (h : wds B n = []) : n = 0 := by
  rcases Nat.eq_zero_or_pos n with h0 | h0
  · exact h0
  · rw [wds_pos B n hB h0] at h; cases h
theorem wds_lt (B : Nat) (hB : 2 ≤ B) : ∀ (n x : Nat), x ∈ wds B n → x < B := by
  intro n
  induction n using Nat.strongRecOn with
  | _ n ih =>
    intro x hx
    rcases Nat.eq_zero_or_pos n with h0 | h0
    · subst h0; rw [wds_zero] at hx; cases hx
    · rw [wds_pos B n hB h0] at hx
      rcases List.mem_cons.1 hx with hx | hx
      · rw [hx]; exact Nat.mod_lt _ (by omega)
      · exact ih (n / B) (Nat.div_lt_self h0 (by omega)) x hx
def val (B : Nat) : List Nat → Nat
  | [] => 0
  | x :: t => x + B * val B t
theorem val_wds (B : Nat) (hB : 2 ≤ B) : ∀ n, val B (wds B n) = n := by
  intro n
  induction n using Nat.strongRecOn with
  | _ n ih =>
    rcases Nat.eq_zero_or_pos n with h0 | h0
    · subst h0; rw [wds_zero]; rfl
    · rw [wds_pos B n hB h0]
      show n % B + B * val B (wds B (n / B)) = n
      rw [ih (n / B) (Nat.div_lt_self h0 (by omega))]
      exact Nat.mod_add_div n B
theorem wds_cons (B x m : Nat) (hB : 2 ≤ B) (hx : x < B) (h : 0 < x ∨ 0 < m) : wds B (x + B * m) = x :: wds B m := by
  have h0 : 0 < x + B * m := by
    rcases h with h | h
    · omega
    · have := Nat.mul_pos (show 0 < B by omega) h; omega
  rw [wds_pos B _ hB h0, Nat.add_mul_mod_self_left, Nat.mod_eq_of_lt hx, Nat.add_mul_div_left _ _ (by omega), Nat.div_eq_of_lt hx, Nat.zero_add]
/-- Times a small one, and another one more. -/
def gr (B : Nat) : List Nat → Nat → Nat → List Nat
  | [], by_, more => if 0 < more then [more] else []
  | x :: t, by_, more => (x * by_ + more) % B :: gr B t by_ ((x * by_ + more) / B)
theorem carry_lt (B x y m : Nat) (hx : x < B) (hy : y < B) (hm : m < B) : (x * y + m) / B < B := by
  rw [Nat.div_lt_iff_lt_mul (by omega)]
  have : x * y ≤ (B - 1) * (B - 1) := Nat.mul_le_mul (by omega) (by omega)
  obtain ⟨b, rfl⟩ : ∃ b, B = b + 1 := ⟨B - 1, by omega⟩
  have e : (b + 1) * (b + 1) = b * b + 2 * b + 1 := by rw [Nat.add_mul, Nat.mul_add]; omega
  have e2 : (b + 1 - 1) * (b + 1 - 1) = b * b := by rw [Nat.add_sub_cancel]
  rw [e2] at this
  omega
theorem gr_wds (B y : Nat) (hB : 2 ≤ B) (hy0 : 0 < y) (hy : y < B) : ∀ (n m : Nat), m < B → gr B (wds B n) y m = wds B (n * y + m) := by
  intro n
  induction n using Nat.strongRecOn with
  | _ n ih =>
    intro m hm
    rcases Nat.eq_zero_or_pos n with h0 | h0
    · subst h0
      rw [wds_zero, Nat.zero_mul, Nat.zero_add]
      show (if 0 < m then [m] else []) = _
      split
      · rename_i h
        rw [wds_pos B m hB h, Nat.mod_eq_of_lt hm, Nat.div_eq_of_lt hm, wds_zero]
      · have : m = 0 := by omega
        rw [this, wds_zero]
    · rw [wds_pos B n hB h0]
      show (n % B * y + m) % B :: gr B (wds B (n / B)) y ((n % B * y + m) / B) = _
      have hlt := Nat.mod_lt n (show 0 < B by omega)
      rw [ih (n / B) (Nat.div_lt_self h0 (by omega)) _ (carry_lt B _ y m hlt hy hm)]
      have hpos : 0 < n * y + m := by have := Nat.mul_pos h0 hy0; omega
      have he : n * y + m = (n % B * y + m) + B * (n / B * y) := by
        conv => lhs; rw [← Nat.mod_add_div n B]
        rw [Nat.add_mul, Nat.mul_assoc]
        omega
      rw [wds_pos B (n * y + m) hB hpos]
      congr 1
      · rw [he, Nat.add_mul_mod_self_left]
      · congr 1
        rw [he, Nat.add_mul_div_left _ _ (by omega)]
        omega
/-- Without the noughts at the end. -/
def strp : List Nat → List Nat
  | [] => []
  | x :: t => if strp t = [] ∧ x = 0 then [] else x :: strp t
theorem strp_val (B : Nat) (hB : 2 ≤ B) : ∀ (l : List Nat), (∀ x ∈ l, x < B) → strp l = wds B (val B l)
  | [], _ => (wds_zero B).symm
  | x :: t, h => by
    have ih := strp_val B hB t (fun y hy => h y (by simp [hy]))
    have hx := h x (by simp)
    show (if strp t = [] ∧ x = 0 then [] else x :: strp t) = wds B (x + B * val B t)
    rw [ih]
    by_cases hc : wds B (val B t) = [] ∧ x = 0
    · rw [if_pos hc]
      have := wds_nil B _ hB hc.1
      rw [this, hc.2, Nat.mul_zero, Nat.zero_add, wds_zero]
    · rw [if_neg hc, wds_cons B x _ hB hx]
      rcases Nat.eq_zero_or_pos x with h0 | h0
      · refine .inr ?_
        rcases Nat.eq_zero_or_pos (val B t) with h1 | h1
        · exact absurd ⟨by rw [h1, wds_zero], h0⟩ hc
        · exact h1
      · exact .inl h0
theorem strp_snoc : ∀ (l : List Nat) (x : Nat), strp (l ++ [x]) = if x = 0 then strp l else l ++ [x]
  | [], x => by
    show (if strp [] = [] ∧ x = 0 then [] else [x]) = _
    by_cases hx : x = 0
    · rw [if_pos ⟨rfl, hx⟩, if_pos hx]; rfl
    · rw [if_neg (fun h => hx h.2), if_neg hx]; rfl
  | y :: l, x => by
    have ih := strp_snoc l x
    show (if strp (l ++ [x]) = [] ∧ y = 0 then [] else y :: strp (l ++ [x])) = _
    rw [ih]
    by_cases hx : x = 0
    · rw [if_pos hx, if_pos hx]; rfl
    · rw [if_neg hx, if_neg hx, if_neg (fun h => by simp at h)]; rfl
/-- Words moved up by less than a word: C = 2^r, D = B / C. -/
def sh (C D : Nat) : Nat → List Nat → List Nat
  | c, [] => [c]
  | c, x :: t => (c + x % D * C) :: sh C D (x / D) t
theorem val_sh (B C D : Nat) (hB : B = D * C) (hD : 0 < D) : ∀ (l : List Nat) (c : Nat), val B (sh C D c l) = c + val B l * C
  | [], c => by show c + B * 0 = _; simp [val]
  | x :: t, c => by
    show c + x % D * C + B * val B (sh C D (x / D) t) = c + (x + B * val B t) * C
    rw [val_sh B C D hB hD t]
    have e : x = x % D + D * (x / D) := (Nat.mod_add_div x D).symm
    conv => rhs; rw [e]
    rw [Nat.mul_add B, Nat.add_mul, Nat.add_mul, hB]
    have h1 : D * C * (x / D) = D * (x / D) * C := by ac_rfl
    have h2 : D * C * (val (D * C) t * C) = D * C * val (D * C) t * C := by ac_rfl
    rw [h1, h2]
    omega
theorem sh_lt (B C D : Nat) (hB : B = D * C) (hD : 0 < D) (hC : 0 < C) : ∀ (l : List Nat) (c : Nat), c < C → (∀ x ∈ l, x < B) → ∀ y ∈ sh C D c l, y < B
  | [], c, hc, _, y, hy => by
    have hy : y = c := by simpa [sh] using hy
    rw [hy, hB]
    have : 1 * C ≤ D * C := Nat.mul_le_mul_right _ hD
    omega
  | x :: t, c, hc, h, y, hy => by
    have hy : y = c + x % D * C ∨ y ∈ sh C D (x / D) t := by simpa [sh] using hy
    rcases hy with hy | hy
    · rw [hy, hB]
      have h1 := Nat.mod_lt x hD
      have h2 : (x % D + 1) * C ≤ D * C := Nat.mul_le_mul_right _ h1
      rw [Nat.add_mul, Nat.one_mul] at h2
      omega
    · refine sh_lt B C D hB hD hC t (x / D) ?_ (fun z hz => h z (by simp [hz])) y hy
      have := h x (by simp)
      rw [hB] at this
      exact (Nat.div_lt_iff_lt_mul hD).2 (by rw [Nat.mul_comm]; exact this)
theorem val_rep (B : Nat) : ∀ (q : Nat) (l : List Nat), val B (List.replicate q 0 ++ l) = B ^ q * val B l
  | 0, l => by simp
  | q + 1, l => by
    rw [List.replicate_succ, List.cons_append]
    show 0 + B * val B (List.replicate q 0 ++ l) = _
    rw [val_rep B q l, Nat.pow_succ]
    simp only [Nat.zero_add]
    ac_rfl
/-- Less another one. -/
def sb (B : Nat) : List Nat → List Nat → Nat → List Nat
  | [], _, _ => []
  | x :: t, m, b => (x + B - (m.headD 0 + b)) % B :: sb B t m.tail (if x < m.headD 0 + b then 1 else 0)
theorem sb_lt (B : Nat) (hB : 2 ≤ B) : ∀ (l m : List Nat) (b : Nat), ∀ y ∈ sb B l m b, y < B
  | [], m, b, y, hy => by cases hy
  | x :: t, m, b, y, hy => by
    have hy : y = (x + B - (m.headD 0 + b)) % B ∨ y ∈ sb B t m.tail (if x < m.headD 0 + b then 1 else 0) := by simpa [sb] using hy
    rcases hy with hy | hy
    · rw [hy]; exact Nat.mod_lt _ (by omega)
    · exact sb_lt B hB t _ _ y hy
theorem val_tail (B : Nat) (m : List Nat) : val B m = m.headD 0 + B * val B m.tail := by cases m <;> simp [val]
theorem val_sb (B : Nat) (hB : 2 ≤ B) : ∀ (l m : List Nat) (b : Nat), (∀ x ∈ l, x < B) → (∀ x ∈ m, x < B) → b ≤ 1 → val B m + b ≤ val B l → val B (sb B l m b) + (val B m + b) = val B l
  | [], m, b, _, _, _, h => by
    have : val B ([] : List Nat) = 0 := rfl
    show val B [] + _ = _
    omega
  | x :: t, m, b, hl, hm, hb, h => by
    have hx := hl x (by simp)
    have hh : m.headD 0 < B := by
      cases m with
      | nil => simp; omega
      | cons y m => exact hm y (by simp)
    have hmt : ∀ z ∈ m.tail, z < B := fun z hz => hm z (List.mem_of_mem_tail hz)
    have ev := val_tail B m
    have el : val B (x :: t) = x + B * val B t := rfl
    rw [el, ev] at h
    show (x + B - (m.headD 0 + b)) % B + B * val B (sb B t m.tail (if x < m.headD 0 + b then 1 else 0)) + (val B m + b) = x + B * val B t
    rw [ev]
    generalize m.headD 0 = y at *
    by_cases hc : x < y + b
    · rw [if_pos hc]
      have h1 : (x + B - (y + b)) % B = x + B - (y + b) := Nat.mod_eq_of_lt (by omega)
      have hle : val B m.tail + 1 ≤ val B t := by
        rcases Nat.lt_or_ge (val B m.tail) (val B t) with h2 | h2
        · exact h2
        · have := Nat.mul_le_mul_left B h2
          omega
      have ih := val_sb B hB t m.tail 1 (fun z hz => hl z (by simp [hz])) hmt (Nat.le_refl _) hle
      rw [h1]
      have e : B * val B t = B * val B (sb B t m.tail 1) + B * val B m.tail + B := by rw [← ih]; simp only [Nat.mul_add, Nat.mul_one]; omega
      omega
    · rw [if_neg hc]
      have h1 : (x + B - (y + b)) % B = x - (y + b) := by
        have : x + B - (y + b) = x - (y + b) + B := by omega
        rw [this, Nat.add_mod_right, Nat.mod_eq_of_lt (by omega)]
      have hle : val B m.tail + 0 ≤ val B t := by
        rcases Nat.lt_or_ge (val B t) (val B m.tail) with h2 | h2
        · have h3 : B * (val B t + 1) ≤ B * val B m.tail := Nat.mul_le_mul_left B h2
          rw [Nat.mul_add, Nat.mul_one] at h3
          omega
        · omega
      have ih := val_sb B hB t m.tail 0 (fun z hz => hl z (by simp [hz])) hmt (by omega) hle
      rw [h1]
      have e : B * val B t = B * val B (sb B t m.tail 0) + B * val B m.tail := by rw [← ih]; simp only [Nat.mul_add, Nat.add_zero]
      omega
theorem wds_len_mono (B : Nat) (hB : 2 ≤ B) : ∀ (a b : Nat), (wds B a).length < (wds B b).length → a < b := by
  intro a
  induction a using Nat.strongRecOn with
  | _ a ih =>
    intro b h
    rcases Nat.eq_zero_or_pos b with hb | hb
    · subst hb; rw [wds_zero] at h; simp at h
    · rcases Nat.eq_zero_or_pos a with ha | ha
      · omega
      · rw [wds_pos B a hB ha, wds_pos B b hB hb] at h
        simp only [List.length_cons] at h
        have := ih (a / B) (Nat.div_lt_self ha (by omega)) (b / B) (by omega)
        rcases Nat.lt_or_ge a b with h1 | h1
        · exact h1
        · have := Nat.div_le_div_right (c := B) h1
          omega
theorem val_app (B : Nat) : ∀ (l m : List Nat), val B (l ++ m) = val B l + B ^ l.length * val B m
  | [], m => by simp [val]
  | x :: t, m => by
    show x + B * val B (t ++ m) = x + B * val B t + B ^ (t.length + 1) * val B m
    rw [val_app B t m, Nat.pow_succ, Nat.mul_add]
    have : B * (B ^ t.length * val B m) = B ^ t.length * B * val B m := by ac_rfl
    omega
theorem val_lt (B : Nat) (hB : 2 ≤ B) : ∀ (l : List Nat), (∀ x ∈ l, x < B) → val B l < B ^ l.length
  | [], _ => by simp [val]
  | x :: t, h => by
    have ih := val_lt B hB t (fun y hy => h y (by simp [hy]))
    have hx := h x (by simp)
    show x + B * val B t < B ^ (t.length + 1)
    rw [Nat.pow_succ]
    have : B * (val B t + 1) ≤ B ^ t.length * B := by rw [Nat.mul_comm (B ^ t.length)]; exact Nat.mul_le_mul_left B ih
    rw [Nat.mul_add, Nat.mul_one] at this
    omega
/-- Two rows as long as one another that are the same above a place, and differ there. -/
theorem val_cmp (B : Nat) (hB : 2 ≤ B) (l m u : List Nat) (x y : Nat) (hl : ∀ z ∈ l, z < B) (hm : ∀ z ∈ m, z < B) (hlen : l.length = m.length) (hxy : x < y) : val B (l ++ x :: u) < val B (m ++ y :: u) := by
  rw [val_app, val_app, hlen]
  show val B l + B ^ m.length * (x + B * val B u) < val B m + B ^ m.length * (y + B * val B u)
  have h1 := val_lt B hB l hl
  rw [hlen] at h1
  have h2 : B ^ m.length * (x + 1 + B * val B u) ≤ B ^ m.length * (y + B * val B u) := Nat.mul_le_mul_left _ (by omega)
  rw [show x + 1 + B * val B u = x + B * val B u + 1 by omega, Nat.mul_add, Nat.mul_one] at h2
  omega
end Go.Proofs.YtjecdciabpjgcaaGreatDoor.Lz
namespace Go.Proofs.YtjecdciabpjgcaaGreatDoor.Lx
set_option linter.unusedVariables false
def isdec (c : UInt8) : Bool := 48 ≤ c && c ≤ 57
def ishex (c : UInt8) : Bool := (48 ≤ c && c ≤ 57) || (97 ≤ c && c ≤ 102) || (65 ≤ c && c ≤ 70)
/-- The digits of a row. -/
def isdig (hex : Bool) (c : UInt8) : Bool := if hex then ishex c else isdec c
def dval (c : UInt8) : Nat := if c ≤ 57 then c.toNat - 48 else if c ≤ 70 then c.toNat - 55 else c.toNat - 87
def digs (t : List UInt8) : List UInt8 := t.filter (· != 95)
def odd (t : List UInt8) : Bool := Lib.hasPrefix t [95] || Lib.hasSuffix t [95] || Lib.contains t [95, 95]
def rowF (t : List UInt8) (hex : Bool) : List UInt8 × Bool :=
  if (digs t).all (isdig hex) = true then (digs t, !(digs t).isEmpty && !odd t) else ([], false)
/-- The number of digits behind n; none: it has more than 64 bits. -/
def numK (b : Nat) : List UInt8 → Nat → Option Nat
  | [], n => some n
  | c :: t, n => if (18446744073709551615 - dval c) / b < n then none else numK b t (n * b + dval c)
def signF (l : List UInt8) : Bool × List UInt8 := if Lib.hasPrefix l [45] = true then (true, l.drop 1) else (false, Lib.trimPrefix l [43])
def hexF (l : List UInt8) : Bool × List UInt8 := (Lib.hasPrefix l [48, 120], Lib.trimPrefix l [48, 120])
def most (bits : Int) : Nat := 2 ^ bits.toNat - 1
def right (bits : Int) : Bool := bits == 8 || bits == 16 || bits == 32 || bits == 64
def intF (bits : Int) (l : List UInt8) : Nat × Bool :=
  let s := signF l
  let h := hexF s.2
  let r := rowF h.2 h.1
  if right bits = true ∧ r.2 = true then
    match numK (if h.1 then 16 else 10) r.1 0 with
    | none => (0, false)
    | some n => if (s.1 = true ∧ most bits / 2 + 1 < n) ∨ most bits < n then (0, false) else if s.1 = true then ((most bits + 1 - n) % (most bits + 1), true) else (n, true)
  else (0, false)
inductive F where
  | nil
  | cons (kind : Int) (text : List UInt8) (kids rest : F)
deriving DecidableEq
def F.len : F → Nat
  | .nil => 0
  | .cons _ _ _ r => r.len + 1
end Go.Proofs.YtjecdciabpjgcaaGreatDoor.Lx
namespace Go.Proofs
open Go.Shelf
def Tryz.lays161_ren : Go.Shelf.Ren := ⟨fun | 161 => 99 | 231 => 126 | 227 => 127 | 233 => 128 | 235 => 129 | 228 => 159 | 197 => 122 | 151 => 160 | 260 => 155 | 152 => 171 | 137 => 57 | 119 => 174 | 224 => 157 | 225 => 156 | 217 => 95 | 266 => 124 | n => n, fun | 9 => 9 | 4 => 4 | 3 => 3 | 5 => 5 | 117 => 156 | 116 => 155 | 0 => 0 | 124 => 159 | 105 => 151 | 21 => 21 | 119 => 189 | 46 => 27 | 139 => 192 | 138 => 191 | n => n, fun | 3 => 3 | 4 => 4 | n => n⟩
theorem Tryz.lays161 : Go.Proofs.Lays.n161 Tryz.prog Tryz.lays161_ren := {
  mixed := by kernel_rfl
  f119 := Tryz.func174.trans (congrArg some (by kernel_rfl))
  f137 := Tryz.func57.trans (congrArg some (by kernel_rfl))
  f151 := Tryz.func160.trans (congrArg some (by kernel_rfl))
  f152 := Tryz.func171.trans (congrArg some (by kernel_rfl))
  f161 := Tryz.func99.trans (congrArg some (by kernel_rfl))
  f197 := Tryz.func122.trans (congrArg some (by kernel_rfl))
  f217 := Tryz.func95.trans (congrArg some (by kernel_rfl))
  f224 := Tryz.func157.trans (congrArg some (by kernel_rfl))
  f225 := Tryz.func156.trans (congrArg some (by kernel_rfl))
  f227 := Tryz.func127.trans (congrArg some (by kernel_rfl))
  f228 := Tryz.func159.trans (congrArg some (by kernel_rfl))
  f231 := Tryz.func126.trans (congrArg some (by kernel_rfl))
  f233 := Tryz.func128.trans (congrArg some (by kernel_rfl))
  f235 := Tryz.func129.trans (congrArg some (by kernel_rfl))
  f260 := Tryz.func155.trans (congrArg some (by kernel_rfl))
  f266 := Tryz.func124.trans (congrArg some (by kernel_rfl))
  t0 := Tryz.underlying0
  a0 := Tryz.isAgg0
  z0 := Tryz.sizeOf0
  v0 := Tryz.zeroValue0
  t3 := Tryz.underlying3
  a3 := Tryz.isAgg3
  z3 := Tryz.sizeOf3
  v3 := Tryz.zeroValue3
  t4 := Tryz.underlying4
  a4 := Tryz.isAgg4
  z4 := Tryz.sizeOf4
  v4 := Tryz.zeroValue4
  t5 := Tryz.underlying5
  a5 := Tryz.isAgg5
  z5 := Tryz.sizeOf5
  v5 := Tryz.zeroValue5
  t9 := Tryz.underlying9
  a9 := Tryz.isAgg9
  z9 := Tryz.sizeOf9
  v9 := Tryz.zeroValue9
  t21 := Tryz.underlying21
  a21 := Tryz.isAgg21
  z21 := Tryz.sizeOf21
  v21 := Tryz.zeroValue21
  t46 := Tryz.underlying27
  a46 := Tryz.isAgg27
  z46 := Tryz.sizeOf27
  v46 := Tryz.zeroValue27
  t105 := Tryz.underlying151
  a105 := Tryz.isAgg151
  z105 := Tryz.sizeOf151
  v105 := Tryz.zeroValue151
  t116 := Tryz.underlying155
  a116 := Tryz.isAgg155
  z116 := Tryz.sizeOf155
  t117 := Tryz.underlying156
  a117 := Tryz.isAgg156
  z117 := Tryz.sizeOf156
  v117 := Tryz.zeroValue156
  t119 := Tryz.underlying189
  a119 := Tryz.isAgg189
  z119 := Tryz.sizeOf189
  t124 := Tryz.underlying159
  a124 := Tryz.isAgg159
  z124 := Tryz.sizeOf159
  v124 := Tryz.zeroValue159
  t138 := Tryz.underlying191
  a138 := Tryz.isAgg191
  z138 := Tryz.sizeOf191
  v138 := Tryz.zeroValue191
  t139 := Tryz.underlying192
  a139 := Tryz.isAgg192
  z139 := Tryz.sizeOf192
  v139 := Tryz.zeroValue192
  g3 := by kernel_rfl
  g4 := by kernel_rfl }
open Go.RowKit in
/-- strings.TrimLeft: "TrimLeft returns a slice of the string s with all leading Unicode code points contained in cutset removed.": AT A cutset OF ONE ASCII BYTE. The world is as it was. (LAID: no walk: one application.) -/
theorem Tryz.strings_TrimLeft_one (s : ByteArray) (c : UInt8) (hc : c.toNat < 128) (w : World) :
    Calls Tryz.prog 99 #[.string s, .string ⟨#[c]⟩] w fun e w' => e = .returned (.string ⟨(Lib.trimLeftB s.data.toList c).toArray⟩) ∧ w' = w := Any.strings_TrimLeft_one Tryz.lays161 s c hc w
def Tryz.lays160_ren : Go.Shelf.Ren := ⟨fun | 160 => 100 | 232 => 130 | 231 => 126 | 227 => 127 | 234 => 131 | 233 => 128 | 236 => 132 | 235 => 129 | 228 => 159 | 271 => 161 | 151 => 160 | 197 => 122 | 120 => 172 | 152 => 171 | 260 => 155 | 137 => 57 | 119 => 174 | 224 => 157 | 225 => 156 | 217 => 95 | 266 => 124 | n => n, fun | 9 => 9 | 4 => 4 | 3 => 3 | 5 => 5 | 117 => 156 | 116 => 155 | 0 => 0 | 124 => 159 | 21 => 21 | 105 => 151 | 46 => 27 | 119 => 189 | 139 => 192 | 138 => 191 | n => n, fun | 3 => 3 | 4 => 4 | n => n⟩
theorem Tryz.lays160 : Go.Proofs.Lays.n160 Tryz.prog Tryz.lays160_ren := {
  mixed := by kernel_rfl
  f119 := Tryz.func174.trans (congrArg some (by kernel_rfl))
  f120 := Tryz.func172.trans (congrArg some (by kernel_rfl))
  f137 := Tryz.func57.trans (congrArg some (by kernel_rfl))
  f151 := Tryz.func160.trans (congrArg some (by kernel_rfl))
  f152 := Tryz.func171.trans (congrArg some (by kernel_rfl))
  f160 := Tryz.func100.trans (congrArg some (by kernel_rfl))
  f197 := Tryz.func122.trans (congrArg some (by kernel_rfl))
  f217 := Tryz.func95.trans (congrArg some (by kernel_rfl))
  f224 := Tryz.func157.trans (congrArg some (by kernel_rfl))
  f225 := Tryz.func156.trans (congrArg some (by kernel_rfl))
  f227 := Tryz.func127.trans (congrArg some (by kernel_rfl))
  f228 := Tryz.func159.trans (congrArg some (by kernel_rfl))
  f231 := Tryz.func126.trans (congrArg some (by kernel_rfl))
  f232 := Tryz.func130.trans (congrArg some (by kernel_rfl))
  f233 := Tryz.func128.trans (congrArg some (by kernel_rfl))
  f234 := Tryz.func131.trans (congrArg some (by kernel_rfl))
  f235 := Tryz.func129.trans (congrArg some (by kernel_rfl))
  f236 := Tryz.func132.trans (congrArg some (by kernel_rfl))
  f260 := Tryz.func155.trans (congrArg some (by kernel_rfl))
  f266 := Tryz.func124.trans (congrArg some (by kernel_rfl))
  f271 := Tryz.func161.trans (congrArg some (by kernel_rfl))
  t0 := Tryz.underlying0
  a0 := Tryz.isAgg0
  z0 := Tryz.sizeOf0
  v0 := Tryz.zeroValue0
  t3 := Tryz.underlying3
  a3 := Tryz.isAgg3
  z3 := Tryz.sizeOf3
  v3 := Tryz.zeroValue3
  t4 := Tryz.underlying4
  a4 := Tryz.isAgg4
  z4 := Tryz.sizeOf4
  v4 := Tryz.zeroValue4
  t5 := Tryz.underlying5
  a5 := Tryz.isAgg5
  z5 := Tryz.sizeOf5
  v5 := Tryz.zeroValue5
  t9 := Tryz.underlying9
  a9 := Tryz.isAgg9
  z9 := Tryz.sizeOf9
  v9 := Tryz.zeroValue9
  t21 := Tryz.underlying21
  a21 := Tryz.isAgg21
  z21 := Tryz.sizeOf21
  v21 := Tryz.zeroValue21
  t46 := Tryz.underlying27
  a46 := Tryz.isAgg27
  z46 := Tryz.sizeOf27
  v46 := Tryz.zeroValue27
  t105 := Tryz.underlying151
  a105 := Tryz.isAgg151
  z105 := Tryz.sizeOf151
  v105 := Tryz.zeroValue151
  t116 := Tryz.underlying155
  a116 := Tryz.isAgg155
  z116 := Tryz.sizeOf155
  t117 := Tryz.underlying156
  a117 := Tryz.isAgg156
  z117 := Tryz.sizeOf156
  v117 := Tryz.zeroValue156
  t119 := Tryz.underlying189
  a119 := Tryz.isAgg189
  z119 := Tryz.sizeOf189
  t124 := Tryz.underlying159
  a124 := Tryz.isAgg159
  z124 := Tryz.sizeOf159
  v124 := Tryz.zeroValue159
  t138 := Tryz.underlying191
  a138 := Tryz.isAgg191
  z138 := Tryz.sizeOf191
  v138 := Tryz.zeroValue191
  t139 := Tryz.underlying192
  a139 := Tryz.isAgg192
  z139 := Tryz.sizeOf192
  v139 := Tryz.zeroValue192
  g3 := by kernel_rfl
  g4 := by kernel_rfl }
open Go.RowKit in
/-- strings.Trim: "Trim returns a slice of the string s with all leading and trailing Unicode code points contained in cutset removed.": AT A cutset OF ONE ASCII BYTE. THE WORLD BEHIND IT: as it was, or (where s is not empty) with ONE DRAW MORE off the tape: the statement 'return trimLeftByte(trimRightByte(s, c), c)' draws its order of evaluation. (LAID: no walk: one application.) -/
theorem Tryz.strings_Trim_one (s : ByteArray) (c : UInt8) (hc : c.toNat < 128) (w : World) (hs : s.size ≤ 9223372036854775807) :
    Calls Tryz.prog 100 #[.string s, .string ⟨#[c]⟩] w fun e w' => e = .returned (.string ⟨(Lib.trimB s.data.toList c).toArray⟩) ∧ (w' = w ∨ w' = w.drew) := Any.strings_Trim_one Tryz.lays160 s c hc w hs
def Tryz.lays134_ren : Go.Shelf.Ren := ⟨fun | 134 => 135 | 129 => 111 | n => n, fun | 53 => 23 | 3 => 3 | 4 => 4 | 46 => 27 | 5 => 5 | 9 => 9 | n => n, fun | n => n⟩
theorem Tryz.lays134 : Go.Proofs.Lays.n134 Tryz.prog Tryz.lays134_ren := {
  mixed := by kernel_rfl
  f129 := Tryz.func111.trans (congrArg some (by kernel_rfl))
  f134 := Tryz.func135.trans (congrArg some (by kernel_rfl))
  t3 := Tryz.underlying3
  a3 := Tryz.isAgg3
  z3 := Tryz.sizeOf3
  v3 := Tryz.zeroValue3
  t4 := Tryz.underlying4
  a4 := Tryz.isAgg4
  z4 := Tryz.sizeOf4
  v4 := Tryz.zeroValue4
  t5 := Tryz.underlying5
  a5 := Tryz.isAgg5
  z5 := Tryz.sizeOf5
  v5 := Tryz.zeroValue5
  t9 := Tryz.underlying9
  a9 := Tryz.isAgg9
  z9 := Tryz.sizeOf9
  v9 := Tryz.zeroValue9
  t46 := Tryz.underlying27
  a46 := Tryz.isAgg27
  z46 := Tryz.sizeOf27
  v46 := Tryz.zeroValue27
  t53 := Tryz.underlying23
  a53 := Tryz.isAgg23
  z53 := Tryz.sizeOf23
  v53 := Tryz.zeroValue23 }
/-- bits.LeadingZeros64: "LeadingZeros64 returns the number of leading zero bits in x; the result is 64 for x == 0.": IT RETURNS '64 - Lib.bitLen x'; the world is as it was. ITS CALLEE bits.Len64 IS MET BY ITS OWN CONTRACT OFF THE SHELF (lay that first): entered in place it sends the kernel out of memory. (LAID: no walk: one application.) -/
theorem Tryz.bits_LeadingZeros64 (x : Int) (w : World) (h0 : 0 ≤ x) (h1 : x ≤ 18446744073709551615) :
    Calls Tryz.prog 135 #[.int .u64 x] w fun e w' => e = .returned (.int .i64 (64 - (Lib.bitLen x.toNat : Int))) ∧ w' = w := Any.bits_LeadingZeros64 Tryz.lays134 x w h0 h1
def Tryz.lays137_ren : Go.Shelf.Ren := ⟨fun | 137 => 57 | 217 => 95 | 266 => 124 | n => n, fun | 9 => 9 | 5 => 5 | 3 => 3 | n => n, fun | n => n⟩
theorem Tryz.lays137 : Go.Proofs.Lays.n137 Tryz.prog Tryz.lays137_ren := {
  mixed := by kernel_rfl
  f137 := Tryz.func57.trans (congrArg some (by kernel_rfl))
  f217 := Tryz.func95.trans (congrArg some (by kernel_rfl))
  f266 := Tryz.func124.trans (congrArg some (by kernel_rfl))
  t3 := Tryz.underlying3
  a3 := Tryz.isAgg3
  z3 := Tryz.sizeOf3
  v3 := Tryz.zeroValue3
  t5 := Tryz.underlying5
  a5 := Tryz.isAgg5
  z5 := Tryz.sizeOf5
  v5 := Tryz.zeroValue5
  t9 := Tryz.underlying9
  a9 := Tryz.isAgg9
  z9 := Tryz.sizeOf9
  v9 := Tryz.zeroValue9 }
open Go.RowKit in
/-- strings.IndexByte: "IndexByte returns the index of the first instance of c in s, or -1 if c is not present in s.": IT RETURNS 'Lib.indexByte s c'; the world is as it was. (LAID: no walk: one application.) -/
theorem Tryz.strings_IndexByte (s : ByteArray) (c : Int) (w : World) :
    Calls Tryz.prog 57 #[.string s, .int .u8 c] w fun e w' => e = .returned (.int .i64 (Lib.indexByte s.data.toList c.toNat.toUInt8)) ∧ w' = w := Any.strings_IndexByte Tryz.lays137 s c w
def Tryz.lays103_ren : Go.Shelf.Ren := ⟨fun | 103 => 23 | 210 => 55 | 206 => 93 | n => n, fun | 9 => 9 | 4 => 4 | 24 => 55 | 3 => 3 | n => n, fun | n => n⟩
theorem Tryz.lays103 : Go.Proofs.Lays.n103 Tryz.prog Tryz.lays103_ren := {
  mixed := by kernel_rfl
  f103 := Tryz.func23.trans (congrArg some (by kernel_rfl))
  f206 := Tryz.func93.trans (congrArg some (by kernel_rfl))
  f210 := Tryz.func55.trans (congrArg some (by kernel_rfl))
  t3 := Tryz.underlying3
  a3 := Tryz.isAgg3
  z3 := Tryz.sizeOf3
  v3 := Tryz.zeroValue3
  t4 := Tryz.underlying4
  a4 := Tryz.isAgg4
  z4 := Tryz.sizeOf4
  v4 := Tryz.zeroValue4
  t9 := Tryz.underlying9
  a9 := Tryz.isAgg9
  z9 := Tryz.sizeOf9
  v9 := Tryz.zeroValue9
  t24 := Tryz.underlying55
  a24 := Tryz.isAgg55
  z24 := Tryz.sizeOf55
  v24 := Tryz.zeroValue55 }
open Go.RowKit in
/-- strings.CutPrefix: "CutPrefix returns s without the provided leading prefix string and reports whether it found the prefix. If s doesn't start with prefix, CutPrefix returns s, false. If prefix is the empty string, CutPrefix returns s, true.": IT RETURNS '(Lib.trimPrefix s p, Lib.hasPrefix s p)'; the world is as it was. (LAID: no walk: one application.) -/
theorem Tryz.strings_CutPrefix (s p : ByteArray) (w : World) :
    Calls Tryz.prog 23 #[.string s, .string p] w fun e w' => e = .returned (.tuple #[.string ⟨(Lib.trimPrefix s.data.toList p.data.toList).toArray⟩, .bool (Lib.hasPrefix s.data.toList p.data.toList)]) ∧ w' = w := Any.strings_CutPrefix Tryz.lays103 s p w
def Tryz.lays129_ren : Go.Shelf.Ren := ⟨fun | 129 => 111 | n => n, fun | 53 => 23 | 3 => 3 | 4 => 4 | 46 => 27 | 5 => 5 | 9 => 9 | n => n, fun | n => n⟩
theorem Tryz.lays129 : Go.Proofs.Lays.n129 Tryz.prog Tryz.lays129_ren := {
  mixed := by kernel_rfl
  f129 := Tryz.func111.trans (congrArg some (by kernel_rfl))
  t3 := Tryz.underlying3
  a3 := Tryz.isAgg3
  z3 := Tryz.sizeOf3
  v3 := Tryz.zeroValue3
  t4 := Tryz.underlying4
  a4 := Tryz.isAgg4
  z4 := Tryz.sizeOf4
  v4 := Tryz.zeroValue4
  t5 := Tryz.underlying5
  a5 := Tryz.isAgg5
  z5 := Tryz.sizeOf5
  v5 := Tryz.zeroValue5
  t9 := Tryz.underlying9
  a9 := Tryz.isAgg9
  z9 := Tryz.sizeOf9
  v9 := Tryz.zeroValue9
  t46 := Tryz.underlying27
  a46 := Tryz.isAgg27
  z46 := Tryz.sizeOf27
  v46 := Tryz.zeroValue27
  t53 := Tryz.underlying23
  a53 := Tryz.isAgg23
  z53 := Tryz.sizeOf23
  v53 := Tryz.zeroValue23 }
/-- bits.Len64: "Len64 returns the minimum number of bits required to represent x; the result is 0 for x == 0.": IT RETURNS 'Lib.bitLen x'; the world is as it was. ('h0', 'h1': x is a uint64.) (LAID: no walk: one application.) -/
theorem Tryz.bits_Len64 (x : Int) (w : World) (h0 : 0 ≤ x) (h1 : x ≤ 18446744073709551615) :
    Calls Tryz.prog 111 #[.int .u64 x] w fun e w' => e = .returned (.int .i64 (Lib.bitLen x.toNat)) ∧ w' = w := Any.bits_Len64 Tryz.lays129 x w h0 h1
def Tryz.laysM171_ren : Go.Shelf.Ren := ⟨fun | 171 => 40 | 243 => 77 | 246 => 66 | 283 => 105 | 284 => 106 | 285 => 107 | 286 => 108 | 129 => 111 | 317 => 139 | 318 => 140 | 319 => 141 | 320 => 142 | 337 => 163 | 338 => 164 | n => n, fun | 3 => 3 | 9 => 9 | 2 => 2 | 4 => 4 | 171 => 127 | 0 => 0 | 53 => 23 | 37 => 49 | 5 => 5 | 173 => 130 | 212 => 167 | 51 => 168 | 20 => 20 | 213 => 169 | 46 => 27 | 232 => 196 | 233 => 197 | n => n, fun | 17 => 0 | 18 => 5 | 19 => 6 | n => n⟩
theorem Tryz.laysM171 : Go.Proofs.LaysM.n171 Tryz.prog Tryz.laysM171_ren := {
  mixed := by kernel_rfl
  f129 := Tryz.func111.trans (congrArg some (by kernel_rfl))
  f171 := Tryz.func40.trans (congrArg some (by kernel_rfl))
  f243 := Tryz.func77.trans (congrArg some (by kernel_rfl))
  f246 := Tryz.func66.trans (congrArg some (by kernel_rfl))
  f283 := Tryz.func105.trans (congrArg some (by kernel_rfl))
  f284 := Tryz.func106.trans (congrArg some (by kernel_rfl))
  f285 := Tryz.func107.trans (congrArg some (by kernel_rfl))
  f286 := Tryz.func108.trans (congrArg some (by kernel_rfl))
  f317 := Tryz.func139.trans (congrArg some (by kernel_rfl))
  f318 := Tryz.func140.trans (congrArg some (by kernel_rfl))
  f319 := Tryz.func141.trans (congrArg some (by kernel_rfl))
  f320 := Tryz.func142.trans (congrArg some (by kernel_rfl))
  f337 := Tryz.func163.trans (congrArg some (by kernel_rfl))
  f338 := Tryz.func164.trans (congrArg some (by kernel_rfl))
  t0 := Tryz.underlying0
  a0 := Tryz.isAgg0
  z0 := Tryz.sizeOf0
  v0 := Tryz.zeroValue0
  t2 := Tryz.underlying2
  a2 := Tryz.isAgg2
  z2 := Tryz.sizeOf2
  v2 := Tryz.zeroValue2
  t3 := Tryz.underlying3
  a3 := Tryz.isAgg3
  z3 := Tryz.sizeOf3
  v3 := Tryz.zeroValue3
  t4 := Tryz.underlying4
  a4 := Tryz.isAgg4
  z4 := Tryz.sizeOf4
  v4 := Tryz.zeroValue4
  t5 := Tryz.underlying5
  a5 := Tryz.isAgg5
  z5 := Tryz.sizeOf5
  v5 := Tryz.zeroValue5
  t9 := Tryz.underlying9
  a9 := Tryz.isAgg9
  z9 := Tryz.sizeOf9
  v9 := Tryz.zeroValue9
  t20 := Tryz.underlying20
  a20 := Tryz.isAgg20
  z20 := Tryz.sizeOf20
  v20 := Tryz.zeroValue20
  t37 := Tryz.underlying49
  a37 := Tryz.isAgg49
  z37 := Tryz.sizeOf49
  v37 := Tryz.zeroValue49
  t46 := Tryz.underlying27
  a46 := Tryz.isAgg27
  z46 := Tryz.sizeOf27
  v46 := Tryz.zeroValue27
  t51 := Tryz.underlying168
  a51 := Tryz.isAgg168
  z51 := Tryz.sizeOf168
  v51 := Tryz.zeroValue168
  t53 := Tryz.underlying23
  a53 := Tryz.isAgg23
  z53 := Tryz.sizeOf23
  v53 := Tryz.zeroValue23
  t171 := Tryz.underlying127
  a171 := Tryz.isAgg127
  z171 := Tryz.sizeOf127
  v171 := Tryz.zeroValue127
  t173 := Tryz.underlying130
  a173 := Tryz.isAgg130
  z173 := Tryz.sizeOf130
  v173 := Tryz.zeroValue130
  t212 := Tryz.underlying167
  a212 := Tryz.isAgg167
  z212 := Tryz.sizeOf167
  v212 := Tryz.zeroValue167
  t213 := Tryz.underlying169
  a213 := Tryz.isAgg169
  z213 := Tryz.sizeOf169
  t232 := Tryz.underlying196
  a232 := Tryz.isAgg196
  z232 := Tryz.sizeOf196
  v232 := Tryz.zeroValue196
  t233 := Tryz.underlying197
  a233 := Tryz.isAgg197
  z233 := Tryz.sizeOf197
  v233 := Tryz.zeroValue197
  g17 := by kernel_rfl
  g18 := by kernel_rfl
  g19 := by kernel_rfl
  i0 := by kernel_rfl
  i2 := by kernel_rfl
  i3 := by kernel_rfl
  i4 := by kernel_rfl
  i5 := by kernel_rfl
  i9 := by kernel_rfl
  i20 := by kernel_rfl
  i37 := by kernel_rfl
  i46 := by kernel_rfl
  i51 := by kernel_rfl
  i53 := by kernel_rfl
  i171 := by kernel_rfl
  i173 := by kernel_rfl
  i212 := by kernel_rfl
  i232 := by kernel_rfl
  i233 := by kernel_rfl
  m17 := by kernel_rfl
  m18 := by kernel_rfl
  m19 := by kernel_rfl }
open Go.RowKit Go.Sort Go.Lib in
/-- strconv.Itoa: "Itoa is equivalent to FormatInt(int64(i), 10).": i's DECIMAL NUMERAL ('Lib.itoa': a '-' where i is negative, then the digits), FOR EVERY int. The world behind the call: the world before it, new blocks behind the heap (the library's 'var a [24]byte'), draws. (LAID: no walk: one application.) -/
theorem Tryz.strconv_Itoa (n : Int) (h0 : -9223372036854775808 ≤ n) (h1 : n ≤ 9223372036854775807) (w : World) (htab : Lib.TabIs Tryz.prog w "internal/strconv.uint64pow10" .u64 Lib.pow10Tab) :
    Calls Tryz.prog 40 #[.int .i64 n] w fun e w' => e = .returned (.string ⟨(Lib.itoa n).toArray⟩) ∧ ∃ k os, w' = grow (w.drewN k) os := Any.strconv_Itoa Tryz.laysM171 n h0 h1 w htab
def Tryz.laysM173_ren : Go.Shelf.Ren := ⟨fun | 173 => 33 | 246 => 66 | 283 => 105 | 284 => 106 | 285 => 107 | 286 => 108 | 129 => 111 | 317 => 139 | 318 => 140 | 319 => 141 | 320 => 142 | 337 => 163 | 338 => 164 | n => n, fun | 2 => 2 | 3 => 3 | 9 => 9 | 4 => 4 | 171 => 127 | 0 => 0 | 53 => 23 | 37 => 49 | 5 => 5 | 173 => 130 | 212 => 167 | 51 => 168 | 20 => 20 | 213 => 169 | 46 => 27 | 232 => 196 | 233 => 197 | n => n, fun | 17 => 0 | 18 => 5 | 19 => 6 | n => n⟩
theorem Tryz.laysM173 : Go.Proofs.LaysM.n173 Tryz.prog Tryz.laysM173_ren := {
  mixed := by kernel_rfl
  f129 := Tryz.func111.trans (congrArg some (by kernel_rfl))
  f173 := Tryz.func33.trans (congrArg some (by kernel_rfl))
  f246 := Tryz.func66.trans (congrArg some (by kernel_rfl))
  f283 := Tryz.func105.trans (congrArg some (by kernel_rfl))
  f284 := Tryz.func106.trans (congrArg some (by kernel_rfl))
  f285 := Tryz.func107.trans (congrArg some (by kernel_rfl))
  f286 := Tryz.func108.trans (congrArg some (by kernel_rfl))
  f317 := Tryz.func139.trans (congrArg some (by kernel_rfl))
  f318 := Tryz.func140.trans (congrArg some (by kernel_rfl))
  f319 := Tryz.func141.trans (congrArg some (by kernel_rfl))
  f320 := Tryz.func142.trans (congrArg some (by kernel_rfl))
  f337 := Tryz.func163.trans (congrArg some (by kernel_rfl))
  f338 := Tryz.func164.trans (congrArg some (by kernel_rfl))
  t0 := Tryz.underlying0
  a0 := Tryz.isAgg0
  z0 := Tryz.sizeOf0
  v0 := Tryz.zeroValue0
  t2 := Tryz.underlying2
  a2 := Tryz.isAgg2
  z2 := Tryz.sizeOf2
  v2 := Tryz.zeroValue2
  t3 := Tryz.underlying3
  a3 := Tryz.isAgg3
  z3 := Tryz.sizeOf3
  v3 := Tryz.zeroValue3
  t4 := Tryz.underlying4
  a4 := Tryz.isAgg4
  z4 := Tryz.sizeOf4
  v4 := Tryz.zeroValue4
  t5 := Tryz.underlying5
  a5 := Tryz.isAgg5
  z5 := Tryz.sizeOf5
  v5 := Tryz.zeroValue5
  t9 := Tryz.underlying9
  a9 := Tryz.isAgg9
  z9 := Tryz.sizeOf9
  v9 := Tryz.zeroValue9
  t20 := Tryz.underlying20
  a20 := Tryz.isAgg20
  z20 := Tryz.sizeOf20
  v20 := Tryz.zeroValue20
  t37 := Tryz.underlying49
  a37 := Tryz.isAgg49
  z37 := Tryz.sizeOf49
  v37 := Tryz.zeroValue49
  t46 := Tryz.underlying27
  a46 := Tryz.isAgg27
  z46 := Tryz.sizeOf27
  v46 := Tryz.zeroValue27
  t51 := Tryz.underlying168
  a51 := Tryz.isAgg168
  z51 := Tryz.sizeOf168
  v51 := Tryz.zeroValue168
  t53 := Tryz.underlying23
  a53 := Tryz.isAgg23
  z53 := Tryz.sizeOf23
  v53 := Tryz.zeroValue23
  t171 := Tryz.underlying127
  a171 := Tryz.isAgg127
  z171 := Tryz.sizeOf127
  v171 := Tryz.zeroValue127
  t173 := Tryz.underlying130
  a173 := Tryz.isAgg130
  z173 := Tryz.sizeOf130
  v173 := Tryz.zeroValue130
  t212 := Tryz.underlying167
  a212 := Tryz.isAgg167
  z212 := Tryz.sizeOf167
  v212 := Tryz.zeroValue167
  t213 := Tryz.underlying169
  a213 := Tryz.isAgg169
  z213 := Tryz.sizeOf169
  t232 := Tryz.underlying196
  a232 := Tryz.isAgg196
  z232 := Tryz.sizeOf196
  v232 := Tryz.zeroValue196
  t233 := Tryz.underlying197
  a233 := Tryz.isAgg197
  z233 := Tryz.sizeOf197
  v233 := Tryz.zeroValue197
  g17 := by kernel_rfl
  g18 := by kernel_rfl
  g19 := by kernel_rfl
  i0 := by kernel_rfl
  i2 := by kernel_rfl
  i3 := by kernel_rfl
  i4 := by kernel_rfl
  i5 := by kernel_rfl
  i9 := by kernel_rfl
  i20 := by kernel_rfl
  i37 := by kernel_rfl
  i46 := by kernel_rfl
  i51 := by kernel_rfl
  i53 := by kernel_rfl
  i171 := by kernel_rfl
  i173 := by kernel_rfl
  i212 := by kernel_rfl
  i232 := by kernel_rfl
  i233 := by kernel_rfl
  m17 := by kernel_rfl
  m18 := by kernel_rfl
  m19 := by kernel_rfl }
open Go.RowKit Go.Sort Go.Lib in
/-- strconv.FormatInt: "FormatInt returns the string representation of i in the given base": AT BASE 10: i's decimal numeral, for every int64. (LAID: no walk: one application.) -/
theorem Tryz.strconv_FormatInt_10 (n : Int) (h0 : -9223372036854775808 ≤ n) (h1 : n ≤ 9223372036854775807) (w : World) (htab : Lib.TabIs Tryz.prog w "internal/strconv.uint64pow10" .u64 Lib.pow10Tab) :
    Calls Tryz.prog 33 #[.int .i64 n, .int .i64 10] w fun e w' => e = .returned (.string ⟨(Lib.itoa n).toArray⟩) ∧ ∃ k os, w' = grow (w.drewN k) os := Any.strconv_FormatInt_10 Tryz.laysM173 n h0 h1 w htab
def Tryz.lays144_ren : Go.Shelf.Ren := ⟨fun | 144 => 60 | 143 => 97 | 219 => 125 | 217 => 95 | 225 => 156 | 224 => 157 | 267 => 158 | 266 => 124 | 314 => 170 | n => n, fun | 9 => 9 | 4 => 4 | 3 => 3 | 5 => 5 | 46 => 27 | 146 => 193 | 51 => 168 | n => n, fun | 1 => 1 | n => n⟩
theorem Tryz.lays144 : Go.Proofs.Lays.n144 Tryz.prog Tryz.lays144_ren := {
  mixed := by kernel_rfl
  f143 := Tryz.func97.trans (congrArg some (by kernel_rfl))
  f144 := Tryz.func60.trans (congrArg some (by kernel_rfl))
  f217 := Tryz.func95.trans (congrArg some (by kernel_rfl))
  f219 := Tryz.func125.trans (congrArg some (by kernel_rfl))
  f224 := Tryz.func157.trans (congrArg some (by kernel_rfl))
  f225 := Tryz.func156.trans (congrArg some (by kernel_rfl))
  f266 := Tryz.func124.trans (congrArg some (by kernel_rfl))
  f267 := Tryz.func158.trans (congrArg some (by kernel_rfl))
  f314 := Tryz.func170.trans (congrArg some (by kernel_rfl))
  t3 := Tryz.underlying3
  a3 := Tryz.isAgg3
  z3 := Tryz.sizeOf3
  v3 := Tryz.zeroValue3
  t4 := Tryz.underlying4
  a4 := Tryz.isAgg4
  z4 := Tryz.sizeOf4
  v4 := Tryz.zeroValue4
  t5 := Tryz.underlying5
  a5 := Tryz.isAgg5
  z5 := Tryz.sizeOf5
  v5 := Tryz.zeroValue5
  t9 := Tryz.underlying9
  a9 := Tryz.isAgg9
  z9 := Tryz.sizeOf9
  v9 := Tryz.zeroValue9
  t46 := Tryz.underlying27
  a46 := Tryz.isAgg27
  z46 := Tryz.sizeOf27
  v46 := Tryz.zeroValue27
  t51 := Tryz.underlying168
  a51 := Tryz.isAgg168
  z51 := Tryz.sizeOf168
  v51 := Tryz.zeroValue168
  t146 := Tryz.underlying193
  a146 := Tryz.isAgg193
  z146 := Tryz.sizeOf193
  v146 := Tryz.zeroValue193
  g1 := by kernel_rfl }
open Go.RowKit Go.Lib in
/-- strings.Contains: "Contains reports whether substr is within s.": IT RETURNS 'Lib.contains s substr'; the world is as it was. (LAID: no walk: one application.) -/
theorem Tryz.strings_Contains (s sub : ByteArray) (m : Int) (w : World) (hs : s.size < 4294967281) (hm : w.cell? ⟨1, 0, none⟩ = some (.int .i64 m)) :
    Calls Tryz.prog 60 #[.string s, .string sub] w fun e w' => e = .returned (.bool (Lib.contains s.data.toList sub.data.toList)) ∧ w' = w := Any.strings_Contains Tryz.lays144 s sub m w hs hm
def Tryz.lays145_ren : Go.Shelf.Ren := ⟨fun | 145 => 63 | 220 => 98 | 219 => 125 | 217 => 95 | 225 => 156 | 224 => 157 | 267 => 158 | 266 => 124 | 314 => 170 | n => n, fun | 9 => 9 | 4 => 4 | 59 => 60 | 3 => 3 | 5 => 5 | 46 => 27 | 146 => 193 | 51 => 168 | n => n, fun | 1 => 1 | n => n⟩
theorem Tryz.lays145 : Go.Proofs.Lays.n145 Tryz.prog Tryz.lays145_ren := {
  mixed := by kernel_rfl
  f145 := Tryz.func63.trans (congrArg some (by kernel_rfl))
  f217 := Tryz.func95.trans (congrArg some (by kernel_rfl))
  f219 := Tryz.func125.trans (congrArg some (by kernel_rfl))
  f220 := Tryz.func98.trans (congrArg some (by kernel_rfl))
  f224 := Tryz.func157.trans (congrArg some (by kernel_rfl))
  f225 := Tryz.func156.trans (congrArg some (by kernel_rfl))
  f266 := Tryz.func124.trans (congrArg some (by kernel_rfl))
  f267 := Tryz.func158.trans (congrArg some (by kernel_rfl))
  f314 := Tryz.func170.trans (congrArg some (by kernel_rfl))
  t3 := Tryz.underlying3
  a3 := Tryz.isAgg3
  z3 := Tryz.sizeOf3
  v3 := Tryz.zeroValue3
  t4 := Tryz.underlying4
  a4 := Tryz.isAgg4
  z4 := Tryz.sizeOf4
  v4 := Tryz.zeroValue4
  t5 := Tryz.underlying5
  a5 := Tryz.isAgg5
  z5 := Tryz.sizeOf5
  v5 := Tryz.zeroValue5
  t9 := Tryz.underlying9
  a9 := Tryz.isAgg9
  z9 := Tryz.sizeOf9
  v9 := Tryz.zeroValue9
  t46 := Tryz.underlying27
  a46 := Tryz.isAgg27
  z46 := Tryz.sizeOf27
  v46 := Tryz.zeroValue27
  t51 := Tryz.underlying168
  a51 := Tryz.isAgg168
  z51 := Tryz.sizeOf168
  v51 := Tryz.zeroValue168
  t59 := Tryz.underlying60
  a59 := Tryz.isAgg60
  z59 := Tryz.sizeOf60
  v59 := Tryz.zeroValue60
  t146 := Tryz.underlying193
  a146 := Tryz.isAgg193
  z146 := Tryz.sizeOf193
  v146 := Tryz.zeroValue193
  g1 := by kernel_rfl }
open Go.RowKit Go.Lib in
/-- strings.Cut: "Cut slices s around the first instance of sep, returning the text before and after sep. The found result reports whether sep appears in s. If sep does not appear in s, cut returns s, "", false.": IT RETURNS 'Lib.cut s sep'; the world is as it was but for the count of draws. (LAID: no walk: one application.) -/
theorem Tryz.strings_Cut (s sep : ByteArray) (m : Int) (w : World) (hs : s.size < 4294967281) (hm : w.cell? ⟨1, 0, none⟩ = some (.int .i64 m)) :
    Calls Tryz.prog 63 #[.string s, .string sep] w fun e w' => e = .returned (.tuple #[.string ⟨(Lib.cut s.data.toList sep.data.toList).1.toArray⟩, .string ⟨(Lib.cut s.data.toList sep.data.toList).2.1.toArray⟩, .bool (Lib.cut s.data.toList sep.data.toList).2.2]) ∧ ∃ n, w' = w.drewN n := Any.strings_Cut Tryz.lays145 s sep m w hs hm
def Tryz.lays99_ren : Go.Shelf.Ren := ⟨fun | 99 => 58 | 206 => 93 | n => n, fun | 9 => 9 | 4 => 4 | 3 => 3 | n => n, fun | n => n⟩
theorem Tryz.lays99 : Go.Proofs.Lays.n99 Tryz.prog Tryz.lays99_ren := {
  mixed := by kernel_rfl
  f99 := Tryz.func58.trans (congrArg some (by kernel_rfl))
  f206 := Tryz.func93.trans (congrArg some (by kernel_rfl))
  t3 := Tryz.underlying3
  a3 := Tryz.isAgg3
  z3 := Tryz.sizeOf3
  v3 := Tryz.zeroValue3
  t4 := Tryz.underlying4
  a4 := Tryz.isAgg4
  z4 := Tryz.sizeOf4
  v4 := Tryz.zeroValue4
  t9 := Tryz.underlying9
  a9 := Tryz.isAgg9
  z9 := Tryz.sizeOf9
  v9 := Tryz.zeroValue9 }
open Go.RowKit Go.Lib in
/-- strings.HasPrefix: "HasPrefix reports whether the string s begins with prefix.": IT RETURNS 'Lib.hasPrefix s prefix'; the world is as it was. (LAID: no walk: one application.) -/
theorem Tryz.strings_HasPrefix (s p : ByteArray) (w : World) :
    Calls Tryz.prog 58 #[.string s, .string p] w fun e w' => e = .returned (.bool (Lib.hasPrefix s.data.toList p.data.toList)) ∧ w' = w := Any.strings_HasPrefix Tryz.lays99 s p w
def Tryz.lays100_ren : Go.Shelf.Ren := ⟨fun | 100 => 59 | 207 => 96 | n => n, fun | 9 => 9 | 4 => 4 | 3 => 3 | n => n, fun | n => n⟩
theorem Tryz.lays100 : Go.Proofs.Lays.n100 Tryz.prog Tryz.lays100_ren := {
  mixed := by kernel_rfl
  f100 := Tryz.func59.trans (congrArg some (by kernel_rfl))
  f207 := Tryz.func96.trans (congrArg some (by kernel_rfl))
  t3 := Tryz.underlying3
  a3 := Tryz.isAgg3
  z3 := Tryz.sizeOf3
  v3 := Tryz.zeroValue3
  t4 := Tryz.underlying4
  a4 := Tryz.isAgg4
  z4 := Tryz.sizeOf4
  v4 := Tryz.zeroValue4
  t9 := Tryz.underlying9
  a9 := Tryz.isAgg9
  z9 := Tryz.sizeOf9
  v9 := Tryz.zeroValue9 }
open Go.RowKit Go.Lib in
/-- strings.HasSuffix: "HasSuffix reports whether the string s ends with suffix.": IT RETURNS 'Lib.hasSuffix s suffix'; the world is as it was. ('hs': no Go string is longer: a caller has it of every string that it was handed.) (LAID: no walk: one application.) -/
theorem Tryz.strings_HasSuffix (s p : ByteArray) (w : World) (hs : s.size ≤ 9223372036854775807) :
    Calls Tryz.prog 59 #[.string s, .string p] w fun e w' => e = .returned (.bool (Lib.hasSuffix s.data.toList p.data.toList)) ∧ w' = w := Any.strings_HasSuffix Tryz.lays100 s p w hs
def Tryz.lays101_ren : Go.Shelf.Ren := ⟨fun | 101 => 54 | 208 => 92 | 206 => 93 | n => n, fun | 9 => 9 | 4 => 4 | 3 => 3 | n => n, fun | n => n⟩
theorem Tryz.lays101 : Go.Proofs.Lays.n101 Tryz.prog Tryz.lays101_ren := {
  mixed := by kernel_rfl
  f101 := Tryz.func54.trans (congrArg some (by kernel_rfl))
  f206 := Tryz.func93.trans (congrArg some (by kernel_rfl))
  f208 := Tryz.func92.trans (congrArg some (by kernel_rfl))
  t3 := Tryz.underlying3
  a3 := Tryz.isAgg3
  z3 := Tryz.sizeOf3
  v3 := Tryz.zeroValue3
  t4 := Tryz.underlying4
  a4 := Tryz.isAgg4
  z4 := Tryz.sizeOf4
  v4 := Tryz.zeroValue4
  t9 := Tryz.underlying9
  a9 := Tryz.isAgg9
  z9 := Tryz.sizeOf9
  v9 := Tryz.zeroValue9 }
open Go.RowKit Go.Lib in
/-- strings.TrimPrefix: "TrimPrefix returns s without the provided leading prefix string. If s doesn't start with prefix, s is returned unchanged.": IT RETURNS 'Lib.trimPrefix s prefix'; the world is as it was. (LAID: no walk: one application.) -/
theorem Tryz.strings_TrimPrefix (s p : ByteArray) (w : World) :
    Calls Tryz.prog 54 #[.string s, .string p] w fun e w' => e = .returned (.string ⟨(Lib.trimPrefix s.data.toList p.data.toList).toArray⟩) ∧ w' = w := Any.strings_TrimPrefix Tryz.lays101 s p w
def Tryz.lays155_ren : Go.Shelf.Ren := ⟨fun | 155 => 56 | 154 => 94 | 138 => 119 | 165 => 120 | 143 => 97 | 166 => 121 | 197 => 122 | 169 => 123 | 195 => 151 | 218 => 152 | 240 => 153 | 241 => 154 | 219 => 125 | 260 => 155 | 276 => 168 | 277 => 169 | 217 => 95 | 225 => 156 | 224 => 157 | 267 => 158 | 266 => 124 | 314 => 170 | n => n, fun | 9 => 9 | 3 => 3 | 4 => 4 | 72 => 145 | 0 => 0 | 76 => 149 | 105 => 151 | 21 => 21 | 5 => 5 | 70 => 143 | 20 => 20 | 37 => 49 | 75 => 148 | 127 => 176 | 164 => 186 | 46 => 27 | 119 => 189 | 139 => 192 | 138 => 191 | 146 => 193 | 51 => 168 | 80 => 116 | n => n, fun | 1 => 1 | 3 => 3 | 4 => 4 | n => n⟩
theorem Tryz.lays155 : Go.Proofs.Lays.n155 Tryz.prog Tryz.lays155_ren := {
  mixed := by kernel_rfl
  f138 := Tryz.func119.trans (congrArg some (by kernel_rfl))
  f143 := Tryz.func97.trans (congrArg some (by kernel_rfl))
  f154 := Tryz.func94.trans (congrArg some (by kernel_rfl))
  f155 := Tryz.func56.trans (congrArg some (by kernel_rfl))
  f165 := Tryz.func120.trans (congrArg some (by kernel_rfl))
  f166 := Tryz.func121.trans (congrArg some (by kernel_rfl))
  f169 := Tryz.func123.trans (congrArg some (by kernel_rfl))
  f195 := Tryz.func151.trans (congrArg some (by kernel_rfl))
  f197 := Tryz.func122.trans (congrArg some (by kernel_rfl))
  f217 := Tryz.func95.trans (congrArg some (by kernel_rfl))
  f218 := Tryz.func152.trans (congrArg some (by kernel_rfl))
  f219 := Tryz.func125.trans (congrArg some (by kernel_rfl))
  f224 := Tryz.func157.trans (congrArg some (by kernel_rfl))
  f225 := Tryz.func156.trans (congrArg some (by kernel_rfl))
  f240 := Tryz.func153.trans (congrArg some (by kernel_rfl))
  f241 := Tryz.func154.trans (congrArg some (by kernel_rfl))
  f260 := Tryz.func155.trans (congrArg some (by kernel_rfl))
  f266 := Tryz.func124.trans (congrArg some (by kernel_rfl))
  f267 := Tryz.func158.trans (congrArg some (by kernel_rfl))
  f276 := Tryz.func168.trans (congrArg some (by kernel_rfl))
  f277 := Tryz.func169.trans (congrArg some (by kernel_rfl))
  f314 := Tryz.func170.trans (congrArg some (by kernel_rfl))
  t0 := Tryz.underlying0
  a0 := Tryz.isAgg0
  z0 := Tryz.sizeOf0
  v0 := Tryz.zeroValue0
  t3 := Tryz.underlying3
  a3 := Tryz.isAgg3
  z3 := Tryz.sizeOf3
  v3 := Tryz.zeroValue3
  t4 := Tryz.underlying4
  a4 := Tryz.isAgg4
  z4 := Tryz.sizeOf4
  v4 := Tryz.zeroValue4
  t5 := Tryz.underlying5
  a5 := Tryz.isAgg5
  z5 := Tryz.sizeOf5
  v5 := Tryz.zeroValue5
  t9 := Tryz.underlying9
  a9 := Tryz.isAgg9
  z9 := Tryz.sizeOf9
  v9 := Tryz.zeroValue9
  t20 := Tryz.underlying20
  a20 := Tryz.isAgg20
  z20 := Tryz.sizeOf20
  v20 := Tryz.zeroValue20
  t21 := Tryz.underlying21
  a21 := Tryz.isAgg21
  z21 := Tryz.sizeOf21
  v21 := Tryz.zeroValue21
  t37 := Tryz.underlying49
  a37 := Tryz.isAgg49
  z37 := Tryz.sizeOf49
  v37 := Tryz.zeroValue49
  t46 := Tryz.underlying27
  a46 := Tryz.isAgg27
  z46 := Tryz.sizeOf27
  v46 := Tryz.zeroValue27
  t51 := Tryz.underlying168
  a51 := Tryz.isAgg168
  z51 := Tryz.sizeOf168
  v51 := Tryz.zeroValue168
  t70 := Tryz.underlying143
  a70 := Tryz.isAgg143
  z70 := Tryz.sizeOf143
  v70 := Tryz.zeroValue143
  t72 := Tryz.underlying145
  a72 := Tryz.isAgg145
  z72 := Tryz.sizeOf145
  v72 := Tryz.zeroValue145
  t75 := Tryz.underlying148
  a75 := Tryz.isAgg148
  z75 := Tryz.sizeOf148
  v75 := Tryz.zeroValue148
  t76 := Tryz.underlying149
  a76 := Tryz.isAgg149
  z76 := Tryz.sizeOf149
  v76 := Tryz.zeroValue149
  t105 := Tryz.underlying151
  a105 := Tryz.isAgg151
  z105 := Tryz.sizeOf151
  v105 := Tryz.zeroValue151
  t119 := Tryz.underlying189
  a119 := Tryz.isAgg189
  z119 := Tryz.sizeOf189
  t127 := Tryz.underlying176
  a127 := Tryz.isAgg176
  z127 := Tryz.sizeOf176
  v127 := Tryz.zeroValue176
  t138 := Tryz.underlying191
  a138 := Tryz.isAgg191
  z138 := Tryz.sizeOf191
  v138 := Tryz.zeroValue191
  t139 := Tryz.underlying192
  a139 := Tryz.isAgg192
  z139 := Tryz.sizeOf192
  v139 := Tryz.zeroValue192
  t146 := Tryz.underlying193
  a146 := Tryz.isAgg193
  z146 := Tryz.sizeOf193
  v146 := Tryz.zeroValue193
  t164 := Tryz.underlying186
  a164 := Tryz.isAgg186
  z164 := Tryz.sizeOf186
  v164 := Tryz.zeroValue186
  g1 := by kernel_rfl
  g3 := by kernel_rfl
  g4 := by kernel_rfl }
theorem Tryz.Builder_Extra_155 : Builder.Extra Tryz.prog Tryz.lays155_ren := {
  sizeBuilder := by kernel_rfl
  liesBuilder := by kernel_rfl
  t5 := Tryz.underlying5
  a5 := Tryz.isAgg5
  z5 := Tryz.sizeOf5
  v5 := Tryz.zeroValue5
  infoByte := by kernel_rfl
  cellsByte := by kernel_rfl
  sizeByte := by kernel_rfl
  neB5 := by decide }
open Go.RowKit Go.Lib in
/-- strings.ReplaceAll: "ReplaceAll returns a copy of the string s with all non-overlapping instances of old replaced by new.": AT AN old THAT IS NOT EMPTY: 'Lib.replaceAll s old new'. (LAID: no walk: one application.) -/
theorem Tryz.strings_ReplaceAll (s old new : ByteArray) (m : Int) (w : World) (hs : s.size < 4294967281) (hm : w.cell? ⟨1, 0, none⟩ = some (.int .i64 m)) (h1 : 1 ≤ old.size) (hlen : s.size + Lib.countB s old * new.size ≤ 140737488355328) :
    Calls Tryz.prog 56 #[.string s, .string old, .string new] w fun e w' =>
      e = .returned (.string ⟨(Lib.replaceAll s.data.toList old.data.toList new.data.toList).toArray⟩) ∧ Below w.heap.size w w' := Any.strings_ReplaceAll Tryz.lays155 Tryz.Builder_Extra_155 s old new m w hs hm h1 hlen
def Tryz.lays264_ren : Go.Shelf.Ren := ⟨fun | 264 => 133 | n => n, fun | 53 => 23 | 46 => 27 | n => n, fun | n => n⟩
theorem Tryz.lays264 : Go.Proofs.Lays.n264 Tryz.prog Tryz.lays264_ren := {
  mixed := by kernel_rfl
  f264 := Tryz.func133.trans (congrArg some (by kernel_rfl))
  t46 := Tryz.underlying27
  a46 := Tryz.isAgg27
  z46 := Tryz.sizeOf27
  v46 := Tryz.zeroValue27
  t53 := Tryz.underlying23
  a53 := Tryz.isAgg23
  z53 := Tryz.sizeOf23
  v53 := Tryz.zeroValue23 }
open Go.RowKit Go.Lib in
theorem Tryz.bits_Mul64 (x y : Nat) (hx : x < 18446744073709551616) (hy : y < 18446744073709551616) (w : World) :
    Calls Tryz.prog 133 #[.int .u64 x, .int .u64 y] w fun e w' => e = .returned (.tuple #[.int .u64 ((x * y / 18446744073709551616 : Nat) : Int), .int .u64 ((x * y % 18446744073709551616 : Nat) : Int)]) ∧ w' = w := Any.bits_Mul64 Tryz.lays264 x y hx hy w
end Go.Proofs
namespace Go.Proofs.YtjecdciabpjgcaaGreatDoor.PLx
open Go.RowKit Go.Proofs.YtjecdciabpjgcaaGreatDoorW.PrintWords
def strings_IndexByte.f (a0 : ByteArray) (a1 : Int) : Option Int := some (Lib.indexByte a0.data.toList a1.toNat.toUInt8)
def strings_HasPrefix.f (a0 a1 : ByteArray) : Option Bool := some (Lib.hasPrefix a0.data.toList a1.data.toList)
def strings_CutPrefix.f (a0 a1 : ByteArray) : Option (ByteArray × Bool) := some (⟨(Lib.trimPrefix a0.data.toList a1.data.toList).toArray⟩, Lib.hasPrefix a0.data.toList a1.data.toList)
def strings_TrimPrefix.f (a0 a1 : ByteArray) : Option ByteArray := some ⟨(Lib.trimPrefix a0.data.toList a1.data.toList).toArray⟩
end Go.Proofs.YtjecdciabpjgcaaGreatDoor.PLx
namespace Go.Proofs.YtjecdciabpjgcaaGreatDoor.Lx
set_option linter.unusedVariables false
set_option linter.unusedSimpArgs false
open Go.RowKit Go.Proofs.YtjecdciabpjgcaaGreatDoorW.PrintWords
/-- The library's variable MaxLen holds a number. -/
def ML (w : World) : Prop := ∃ m, w.cell? ⟨1, 0, none⟩ = some (.int .i64 m)
theorem ML.below {w w' : World} (h : ML w) (hb : Below w.heap.size w w') : ML w' := by
  obtain ⟨m, hm⟩ := h
  exact ⟨m, by rw [hb.cell (p := ⟨1, 0, none⟩) (World.block_lt_of_cell? w _ hm)]; exact hm⟩
theorem len_data (s : ByteArray) : s.data.toList.length = s.size := (Lib.size_eq s).symm
theorem drop_at (s : ByteArray) (p : Nat) (h : p < s.size) : s.data.toList.drop p = s[p] :: s.data.toList.drop (p + 1) := by
  rw [List.drop_eq_getElem_cons (by rw [len_data]; exact h)]; rfl
theorem drop_end (s : ByteArray) (p : Nat) (h : s.size ≤ p) : s.data.toList.drop p = [] := List.drop_of_length_le (by rw [len_data]; exact h)
theorem dval_lt (c : UInt8) (h : ishex c = true) : dval c < 16 := by
  have : ∀ n : Fin 256, ishex n.val.toUInt8 = true → dval n.val.toUInt8 < 16 := by decide +kernel
  have := this ⟨c.toNat, c.toNat_lt⟩
  simpa using this (by simpa using h)
theorem hex_bounds (c : UInt8) (h : ishex c = true) : (48 ≤ c.toNat ∧ c.toNat ≤ 57 ∧ dval c = c.toNat - 48) ∨ (65 ≤ c.toNat ∧ c.toNat ≤ 70 ∧ dval c = c.toNat - 55) ∨ (97 ≤ c.toNat ∧ c.toNat ≤ 102 ∧ dval c = c.toNat - 87) := by
  have : ∀ n : Fin 256, ishex n.val.toUInt8 = true → (48 ≤ n.val ∧ n.val ≤ 57 ∧ dval n.val.toUInt8 = n.val - 48) ∨ (65 ≤ n.val ∧ n.val ≤ 70 ∧ dval n.val.toUInt8 = n.val - 55) ∨ (97 ≤ n.val ∧ n.val ≤ 102 ∧ dval n.val.toUInt8 = n.val - 87) := by decide +kernel
  have := this ⟨c.toNat, c.toNat_lt⟩
  simpa using this (by simpa using h)
theorem value_c (x : Nat) (d : Nat) (w : World) (h : (48 ≤ x ∧ x ≤ 57 ∧ d = x - 48) ∨ (65 ≤ x ∧ x ≤ 70 ∧ d = x - 55) ∨ (97 ≤ x ∧ x ≤ 102 ∧ d = x - 87)) :
    Calls Tryz.prog 61 #[.int .i32 (x : Int)] w fun e w' => e = .returned (.int .u64 (d : Int)) ∧ w = w' := by
  rcases h with ⟨h1, h2, h3⟩ | ⟨h1, h2, h3⟩ | ⟨h1, h2, h3⟩
  · have e : (d : Int) = (x : Int) - 48 := by omega
    rw [e]
    have c1 : (x : Int) ≤ 57 := by omega
    have c2 : 48 ≤ (x : Int) := by omega
    clear h1 h2 h3 e
    go_enter Tryz.func61, Tryz.ntmps61
    go_wp2
    go_ret
    exact ⟨rfl, rfl⟩
  · have e : (d : Int) = (x : Int) - 65 + 10 := by omega
    rw [e]
    have c1 : 57 < (x : Int) := by omega
    have c2 : (x : Int) ≤ 70 := by omega
    have c3 : 65 ≤ (x : Int) := by omega
    clear h1 h2 h3 e
    go_enter Tryz.func61, Tryz.ntmps61
    go_wp2
    go_ret
    exact ⟨rfl, rfl⟩
  · have e : (d : Int) = (x : Int) - 97 + 10 := by omega
    rw [e]
    have c1 : 70 < (x : Int) := by omega
    have c2 : (x : Int) ≤ 102 := by omega
    have c3 : 97 ≤ (x : Int) := by omega
    clear h1 h2 h3 e
    go_enter Tryz.func61, Tryz.ntmps61
    go_wp2
    go_ret
    exact ⟨rfl, rfl⟩
/-- A number's answer. -/
def numR : Option Nat → Value × Value
  | none => (.int .u64 0, .bool false)
  | some n => (.int .u64 (n : Int), .bool true)
structure NumQ (s : ByteArray) (w : World) (R : Option Nat) (e : Ending) (w' : World) : Prop where mk ::
  (out : e = .returned (.tuple #[(numR R).1, (numR R).2]) ∧ Below w.heap.size w w')
theorem iter_bel (w : World) (s : ByteArray) (pos : Nat) : Below w.heap.size w (w.iter s pos) := (Below.refl _ _).alloc (Nat.le_refl _) _
theorem numK_cons (b : Nat) (c : UInt8) (t : List UInt8) (n : Nat) : numK b (c :: t) n = if (18446744073709551615 - dval c) / b < n then none else numK b t (n * b + dval c) := rfl
theorem wr_num (n b d : Nat) (h : n * b + d ≤ 18446744073709551615) : IntKind.u64.wrap (IntKind.u64.wrap ((n : Int) * b) + d) = ((n * b + d : Nat) : Int) := by
  have e : (n : Int) * b = ((n * b : Nat) : Int) := by push_cast; rfl
  rw [IntKind.wrap_u64, IntKind.wrap_u64, e]
  generalize n * b = m at *
  omega
set_option maxRecDepth 100000 in
theorem number_c (s : ByteArray) (b : Nat) (hb : b = 10 ∨ b = 16) (hd : ∀ c ∈ s.data.toList, ishex c = true) (hs : s.size ≤ 140737488351232) (w : World) (R : Option Nat) (hR : numK b s.data.toList 0 = R) :
    Calls Tryz.prog 25 #[.string s, .int .u64 (b : Int)] w (NumQ s w R) := by
  have HR := Lib.hid hR
  have HD := Lib.hid hd
  have hb1 : 10 ≤ b := by omega
  have hb2 : b ≤ 16 := by omega
  clear hR hd hb
  go_enter Tryz.func25, Tryz.ntmps25
  go_wp2
  go_loopw [6] (fun v6 w' => ∃ pos n : Nat, v6 = .int .u64 (n : Int) ∧ n < 18446744073709551616 ∧ pos ≤ s.size ∧ w' = w.iter s pos ∧ Hid (numK b (s.data.toList.drop pos) n = R)) (fun _ w' => s.size - w'.iterPos w.heap.size)
  case atStart => exact ⟨0, 0, rfl, by decide, Nat.zero_le _, rfl, HR⟩
  case round =>
    obtain ⟨pos, n, rfl, hn, hps, rfl, hc⟩ := hrel
    by_cases hp : pos < s.size
    · have hx := HD.out s[pos] (by
        have := drop_at s pos hp
        exact List.mem_of_mem_drop (i := pos) (by rw [this]; exact List.mem_cons_self))
      have hbd := hex_bounds _ hx
      have hdl := dval_lt _ hx
      have hdec := decode_ascii s pos hp (by omega)
      have hc2 := hc.out
      rw [drop_at s pos hp, numK_cons] at hc2
      have hnx : ∀ ty, (Instr.next (.pointer (some ⟨w.heap.size, 0, none⟩)) true ty).run Tryz.prog (w.iter s pos) = _ := fun ty => run_next_any w s pos ty hp
      rw [hdec] at hnx
      have HV := Lib.hid (fun w => value_c _ _ w hbd)
      generalize hxx : s[pos].toNat = x at *
      generalize hdd : dval s[pos] = d at *
      clear hxx hx hdec hbd
      have HC2 := Lib.hid hc2
      clear hc2
      by_cases hov : (18446744073709551615 - d) / b < n
      · have hov' : (18446744073709551615 - (d : Int)) / (b : Int) < (n : Int) := by
          have : (18446744073709551615 - (d : Int)) / (b : Int) = (((18446744073709551615 - d) / b : Nat) : Int) := by
            rw [Int.natCast_ediv]; congr 1; omega
          rw [this]; exact Int.ofNat_lt.2 hov
        have HE : Hid (R = none) := Lib.hid (by have := HC2.out; rw [if_pos hov] at this; exact this.symm)
        clear hov
        go_wp2_with (go_at_call 61; refine (HV.out _).mono ?_; rintro e w' ⟨rfl, rfl⟩)
        go_ret2
        rw [HE.out]
        exact ⟨rfl, iter_bel _ _ _⟩
      · have hq : (((18446744073709551615 - d) / b : Nat) : Int) = (18446744073709551615 - (d : Int)) / (b : Int) := by
          rw [Int.natCast_ediv]; congr 1; omega
        have hov' : (n : Int) ≤ (18446744073709551615 - (d : Int)) / (b : Int) := by omega
        have hfit : n * b + d ≤ 18446744073709551615 := by
          have h1 : n ≤ (18446744073709551615 - d) / b := by omega
          have h2 := (Nat.le_div_iff_mul_le (by omega : 0 < b)).1 h1
          omega
        have hm0 : 0 ≤ (n : Int) * (b : Int) := Int.mul_nonneg (by omega) (by omega)
        have HM1 := Lib.hid hfit
        clear hfit hm0
        have HE : Hid (numK b (s.data.toList.drop (pos + 1)) (n * b + d) = R) := Lib.hid (by have := HC2.out; rw [if_neg hov] at this; exact this)
        clear hov hq
        go_wp2_with (go_at_call 61; refine (HV.out _).mono ?_; rintro e w' ⟨rfl, rfl⟩)
        go_roundw
        case rel =>
          exact ⟨pos + 1, n * b + d, by rw [wr_num _ _ _ HM1.out], by have := HM1.out; omega, by omega, rfl, HE⟩
        case measure => rw [World.iterPos_iter, World.iterPos_iter]; omega
    · have hnx : ∀ ty, (Instr.next (.pointer (some ⟨w.heap.size, 0, none⟩)) true ty).run Tryz.prog (w.iter s pos) = _ := fun ty => run_next_end w s pos ty hp
      have HE : Hid (R = some n) := Lib.hid (by have := hc.out; rw [drop_end s pos (by omega)] at this; exact this.symm)
      go_wp2
      go_ret2
      rw [HE.out]
      exact ⟨rfl, iter_bel _ _ _⟩
theorem hasp_c (s : ByteArray) (p : List UInt8) (b : Bool) (h : Lib.hasPrefix s.data.toList p = b) (w : World) :
    Calls Tryz.prog 58 #[.string s, .string ⟨p.toArray⟩] w fun e w' => e = .returned (.bool b) ∧ w = w' :=
  (Tryz.strings_HasPrefix s ⟨p.toArray⟩ w).mono fun e w' hh => ⟨by rw [hh.1, ← h], hh.2.symm⟩
theorem hass_c (s : ByteArray) (p : List UInt8) (b : Bool) (h : Lib.hasSuffix s.data.toList p = b) (hs : s.size ≤ 140737488351232) (w : World) :
    Calls Tryz.prog 59 #[.string s, .string ⟨p.toArray⟩] w fun e w' => e = .returned (.bool b) ∧ w = w' :=
  (Tryz.strings_HasSuffix s ⟨p.toArray⟩ w (by omega)).mono fun e w' hh => ⟨by rw [hh.1, ← h], hh.2.symm⟩
theorem cutp_c (s : ByteArray) (p : List UInt8) (b : Bool) (r : List UInt8) (h : Lib.hasPrefix s.data.toList p = b) (h2 : Lib.trimPrefix s.data.toList p = r) (w : World) :
    Calls Tryz.prog 23 #[.string s, .string ⟨p.toArray⟩] w fun e w' => e = .returned (.tuple #[.string ⟨r.toArray⟩, .bool b]) ∧ w = w' :=
  (Tryz.strings_CutPrefix s ⟨p.toArray⟩ w).mono fun e w' hh => ⟨by rw [hh.1, ← h, ← h2], hh.2.symm⟩
theorem trimp_c (s : ByteArray) (p : List UInt8) (r : List UInt8) (h2 : Lib.trimPrefix s.data.toList p = r) (w : World) :
    Calls Tryz.prog 54 #[.string s, .string ⟨p.toArray⟩] w fun e w' => e = .returned (.string ⟨r.toArray⟩) ∧ w = w' :=
  (Tryz.strings_TrimPrefix s ⟨p.toArray⟩ w).mono fun e w' hh => ⟨by rw [hh.1, ← h2], hh.2.symm⟩
theorem ixb_c (p : List UInt8) (x : Nat) (i : Int) (h : Lib.indexByte p x.toUInt8 = i) (w : World) :
    Calls Tryz.prog 57 #[.string ⟨p.toArray⟩, .int .u8 (x : Int)] w fun e w' => e = .returned (.int .i64 i) ∧ w = w' :=
  (Tryz.strings_IndexByte ⟨p.toArray⟩ (x : Int) w).mono fun e w' hh => ⟨by rw [hh.1, ← h]; rfl, hh.2.symm⟩
theorem cont_c (s : ByteArray) (p : List UInt8) (b : Bool) (h : Lib.contains s.data.toList p = b) (hs : s.size ≤ 4000000000) (w : World) (hm : ML w) :
    Calls Tryz.prog 60 #[.string s, .string ⟨p.toArray⟩] w fun e w' => e = .returned (.bool b) ∧ w = w' := by
  obtain ⟨m, hm⟩ := hm
  exact (Tryz.strings_Contains s ⟨p.toArray⟩ m w (by omega) hm).mono fun e w' hh => ⟨by rw [hh.1, ← h], hh.2.symm⟩
theorem index_one : ∀ (l : List UInt8) (c : UInt8), Lib.index l [c] = Lib.indexByte l c
  | [], c => rfl
  | b :: l, c => by
    have e : ([c].isPrefixOf (b :: l)) = (b == c) := by
      simp only [List.isPrefixOf]
      rw [Bool.and_true]
      cases h : (c == b)
      · have : c ≠ b := by simpa using h
        exact (beq_eq_false_iff_ne.2 (Ne.symm this)).symm
      · have : c = b := by simpa using h
        rw [this]; exact (beq_self_eq_true b).symm
    unfold Lib.index Lib.indexByte
    rw [e, index_one l c]
theorem filter_none (c : UInt8) (l : List UInt8) (h : ∀ k : Nat, l[k]? ≠ some c) : l.filter (· != c) = l := by
  rw [List.filter_eq_self]
  intro x hx
  obtain ⟨k, hk, e⟩ := List.getElem_of_mem hx
  have := h k
  rw [List.getElem?_eq_getElem hk, e] at this
  simp only [bne_iff_ne, ne_eq]
  intro e2
  exact this (by rw [e2])
theorem count_filter (c : UInt8) : ∀ (n : Nat) (l : List UInt8), l.length ≤ n → Lib.replaceK [c] [] (Lib.count l [c]) l = l.filter (· != c) := by
  intro n
  induction n with
  | zero =>
    intro l hl
    obtain rfl : l = [] := List.eq_nil_of_length_eq_zero (by omega)
    rfl
  | succ n ih =>
    intro l hl
    by_cases hm : Lib.index l [c] = -1
    · rw [Lib.count_miss hm]
      have h0 := hm
      rw [index_one] at h0
      exact (filter_none c l (Lib.indexByte_none h0)).symm
    · obtain ⟨i, hi⟩ : ∃ i : Nat, Lib.index l [c] = i := ⟨(Lib.index l [c]).toNat, by have := Lib.index_ge l [c]; omega⟩
      have hi2 := hi
      rw [index_one] at hi2
      obtain ⟨h1, h2⟩ := Lib.indexByte_some hi2
      have hlt : i < l.length := by
        rcases Nat.lt_or_ge i l.length with h | h
        · exact h
        · rw [List.getElem?_eq_none h] at h1; cases h1
      rw [Lib.count_hit (by simp) hi, Nat.add_comm, Lib.replaceK_hit _ _ _ _ i hi]
      show l.take i ++ [] ++ Lib.replaceK [c] [] (Lib.count (l.drop (i + 1)) [c]) (l.drop (i + 1)) = _
      rw [ih (l.drop (i + 1)) (by rw [List.length_drop]; omega), List.append_nil]
      have hl2 : l = l.take i ++ c :: l.drop (i + 1) := by
        have e1 : l[i] = c := by rw [List.getElem?_eq_getElem hlt] at h1; exact Option.some.inj h1
        conv => lhs; rw [← List.take_append_drop i l, List.drop_eq_getElem_cons hlt, e1]
      conv => rhs; rw [hl2, List.filter_append, List.filter_cons_of_neg (by simp)]
      congr 1
      symm
      refine filter_none c _ (fun k hk => ?_)
      rw [List.getElem?_take] at hk
      split at hk
      · exact h2 k (by omega) hk
      · cases hk
theorem repl_digs (l : List UInt8) : Lib.replaceAll l [95] [] = digs l := by
  unfold Lib.replaceAll Lib.replace Lib.replaceNum
  rw [if_neg (by decide), if_pos (.inl (by decide))]
  exact count_filter 95 l.length l (Nat.le_refl _)
theorem repl_c (s : ByteArray) (r : List UInt8) (h : digs s.data.toList = r) (hs : s.size ≤ 4000000000) (w : World) (hm : ML w) :
    Calls Tryz.prog 56 #[.string s, .string ⟨#[95]⟩, .string ⟨#[]⟩] w fun e w' => e = .returned (.string ⟨r.toArray⟩) ∧ Below w.heap.size w w' := by
  obtain ⟨m, hm⟩ := hm
  refine (Tryz.strings_ReplaceAll s ⟨#[95]⟩ ⟨#[]⟩ m w (by omega) hm (by decide) (by
    have : (⟨#[]⟩ : ByteArray).size = 0 := rfl
    rw [this, Nat.mul_zero]; omega)).mono fun e w' hh => ⟨?_, hh.2⟩
  rw [hh.1, ← h, ← repl_digs]
theorem sign_c (s : ByteArray) (neg : Bool) (r : List UInt8) (h : signF s.data.toList = (neg, r)) (w : World) :
    Calls Tryz.prog 22 #[.string s] w fun e w' => e = .returned (.tuple #[.bool neg, .string ⟨r.toArray⟩]) ∧ w = w' := by
  unfold signF at h
  by_cases hp : Lib.hasPrefix s.data.toList [45] = true
  · rw [if_pos hp] at h
    obtain ⟨rfl, rfl⟩ := Prod.mk.inj h
    have HC := Lib.hid (fun w => cutp_c s [45] true (s.data.toList.drop 1) hp (by unfold Lib.trimPrefix; rw [if_pos hp]; rfl) w)
    clear h hp
    generalize s.data.toList.drop 1 = r at *
    go_enter Tryz.func22, Tryz.ntmps22
    go_wp2_with (go_at_call 23; refine (HC.out _).mono ?_; rintro e w' ⟨rfl, rfl⟩)
    go_ret2
    exact ⟨rfl, rfl⟩
  · have hp' : Lib.hasPrefix s.data.toList [45] = false := by simpa using hp
    rw [if_neg hp] at h
    obtain ⟨rfl, rfl⟩ := Prod.mk.inj h
    have HC := Lib.hid (fun w => cutp_c s [45] false _ hp' rfl w)
    have HT := Lib.hid (fun w => trimp_c s [43] _ rfl w)
    clear h hp hp'
    generalize Lib.trimPrefix s.data.toList [43] = r at *
    generalize Lib.trimPrefix s.data.toList [45] = r2 at *
    go_enter Tryz.func22, Tryz.ntmps22
    go_wp2_with (first | (go_at_call 23; refine (HC.out _).mono ?_; rintro e w' ⟨rfl, rfl⟩) | (go_at_call 54; refine (HT.out _).mono ?_; rintro e w' ⟨rfl, rfl⟩))
    go_ret2
    exact ⟨rfl, rfl⟩
end Go.Proofs.YtjecdciabpjgcaaGreatDoor.Lx
namespace Go.Proofs.YtjecdciabpjgcaaGreatDoor.Lx
set_option linter.unusedVariables false
set_option linter.unusedSimpArgs false
open Go.RowKit Go.Proofs.YtjecdciabpjgcaaGreatDoorW.PrintWords
theorem ix_dec (x : Nat) (h : x < 256) : ∃ i : Int, Lib.indexByte [48, 49, 50, 51, 52, 53, 54, 55, 56, 57] x.toUInt8 = i ∧ (isdig false x.toUInt8 = true → 0 ≤ i) ∧ (isdig false x.toUInt8 = false → i < 0) := by
  have : ∀ n : Fin 256, (isdig false n.val.toUInt8 = true → 0 ≤ Lib.indexByte [48, 49, 50, 51, 52, 53, 54, 55, 56, 57] n.val.toUInt8) ∧ (isdig false n.val.toUInt8 = false → Lib.indexByte [48, 49, 50, 51, 52, 53, 54, 55, 56, 57] n.val.toUInt8 < 0) := by decide +kernel
  exact ⟨_, rfl, this ⟨x, h⟩⟩
theorem ix_hex (x : Nat) (h : x < 256) : ∃ i : Int, Lib.indexByte [48, 49, 50, 51, 52, 53, 54, 55, 56, 57, 97, 98, 99, 100, 101, 102, 65, 66, 67, 68, 69, 70] x.toUInt8 = i ∧ (isdig true x.toUInt8 = true → 0 ≤ i) ∧ (isdig true x.toUInt8 = false → i < 0) := by
  have : ∀ n : Fin 256, (isdig true n.val.toUInt8 = true → 0 ≤ Lib.indexByte [48, 49, 50, 51, 52, 53, 54, 55, 56, 57, 97, 98, 99, 100, 101, 102, 65, 66, 67, 68, 69, 70] n.val.toUInt8) ∧ (isdig true n.val.toUInt8 = false → Lib.indexByte [48, 49, 50, 51, 52, 53, 54, 55, 56, 57, 97, 98, 99, 100, 101, 102, 65, 66, 67, 68, 69, 70] n.val.toUInt8 < 0) := by decide +kernel
  exact ⟨_, rfl, this ⟨x, h⟩⟩
theorem dig_hi (hex : Bool) (c : UInt8) (h : 102 < c.toNat) : isdig hex c = false := by
  have : ∀ n : Fin 256, 102 < n.val → isdig true n.val.toUInt8 = false ∧ isdig false n.val.toUInt8 = false := by decide +kernel
  have := this ⟨c.toNat, c.toNat_lt⟩ h
  cases hex
  · simpa using this.2
  · simpa using this.1
structure RowQ (w : World) (r : List UInt8 × Bool) (e : Ending) (w' : World) : Prop where mk ::
  (out : e = .returned (.tuple #[.string ⟨r.1.toArray⟩, .bool r.2]) ∧ Below w.heap.size w w')
theorem RowQ.of {w w' : World} {r : List UInt8 × Bool} {l : List UInt8} {b : Bool} (h : (l, b) = r) (hb : Below w.heap.size w w') : RowQ w r (.returned (.tuple #[.string ⟨l.toArray⟩, .bool b])) w' := by
  subst h; exact ⟨rfl, hb⟩
theorem RowQ.of2 {w w' : World} {r : List UInt8 × Bool} {S : ByteArray} {l : List UInt8} {b : Bool} (hS : S = ⟨l.toArray⟩) (h : (l, b) = r) (hb : Below w.heap.size w w') : RowQ w r (.returned (.tuple #[.string S, .bool b])) w' := by
  subst hS; exact RowQ.of h hb
/-- The alphabet of digits, and how many of it count. -/
def alph (hex : Bool) : List UInt8 := if hex then [48, 49, 50, 51, 52, 53, 54, 55, 56, 57, 97, 98, 99, 100, 101, 102, 65, 66, 67, 68, 69, 70] else [48, 49, 50, 51, 52, 53, 54, 55, 56, 57]
def alphN (hex : Bool) : Int := if hex then 22 else 10
theorem alph_run (hex : Bool) (W : World) : (Instr.slice 9 (.string ⟨#[48, 49, 50, 51, 52, 53, 54, 55, 56, 57, 97, 98, 99, 100, 101, 102, 65, 66, 67, 68, 69, 70]⟩) none (some (.int .i64 (alphN hex))) none).run Tryz.prog W = .ok (.string ⟨(alph hex).toArray⟩) W := by
  cases hex
  · have := run_slice_string_h (P := Tryz.prog) (w := W) (t := 9) (s := ⟨#[48, 49, 50, 51, 52, 53, 54, 55, 56, 57, 97, 98, 99, 100, 101, 102, 65, 66, 67, 68, 69, 70]⟩) Tryz.underlying9 .i64 10 (by decide) (by decide)
    exact this
  · have := run_slice_string_h (P := Tryz.prog) (w := W) (t := 9) (s := ⟨#[48, 49, 50, 51, 52, 53, 54, 55, 56, 57, 97, 98, 99, 100, 101, 102, 65, 66, 67, 68, 69, 70]⟩) Tryz.underlying9 .i64 22 (by decide) (by decide)
    exact this
theorem ix_alph (hex : Bool) (x : Nat) (h : x < 256) : ∃ i : Int, Lib.indexByte (alph hex) x.toUInt8 = i ∧ (isdig hex x.toUInt8 = true → 0 ≤ i) ∧ (isdig hex x.toUInt8 = false → i < 0) := by
  cases hex
  · exact ix_dec x h
  · exact ix_hex x h
/-- What is behind the loop: is the row odd? -/
theorem odd_cases (l : List UInt8) : (Lib.hasPrefix l [95] = true ∧ odd l = true) ∨ (Lib.hasPrefix l [95] = false ∧ Lib.hasSuffix l [95] = true ∧ odd l = true) ∨ (Lib.hasPrefix l [95] = false ∧ Lib.hasSuffix l [95] = false ∧ Lib.contains l [95, 95] = odd l) := by
  unfold odd
  cases Lib.hasPrefix l [95] <;> cases Lib.hasSuffix l [95] <;> simp
set_option maxRecDepth 1000000 in
theorem row_c (s : ByteArray) (hex : Bool) (hs : s.size ≤ 4000000000) (w : World) (hm : ML w) (R : List UInt8 × Bool) (hR : rowF s.data.toList hex = R) :
    Calls Tryz.prog 24 #[.string s, .bool hex] w (RowQ w R) := by
  obtain ⟨ds, hds⟩ : ∃ ds, digs s.data.toList = ds := ⟨_, rfl⟩
  have hlen : ds.length ≤ s.size := by rw [← hds, ← len_data]; exact List.length_filter_le _ _
  have HR : Hid ((if ds.all (isdig hex) = true then (ds, !ds.isEmpty && !odd s.data.toList) else ([], false)) = R) := Lib.hid (by rw [← hds]; exact hR)
  have HM := Lib.hid hm
  have HRC := Lib.hid (fun w hm => repl_c s ds hds hs w hm)
  have HO := Lib.hid (odd_cases s.data.toList)
  have HAR := alph_run hex
  obtain ⟨nn, hnn⟩ : ∃ nn, nn = alphN hex := ⟨_, rfl⟩
  rw [← hnn] at HAR
  have HN : Hid (nn = alphN hex) := Lib.hid hnn
  have hs2 : ds.length ≤ 140737488351232 := by omega
  clear hR hm hds hnn
  go_enter Tryz.func24, Tryz.ntmps24
  go_upto_if 11 with fail
  go_cut [6] (fun v wx => v = .int .i64 nn ∧ w = wx)
  case first =>
    cases hex
    · go_wp2
      go_meet
      exact ⟨by rw [HN.out]; rfl, rfl⟩
    · go_wp2
      go_meet
      exact ⟨by rw [HN.out]; rfl, rfl⟩
  case rest =>
    obtain ⟨rfl, rfl⟩ := hcut
    go_wp2_with (go_at_call 56; refine (HRC.out _ HM.out).mono ?_; rintro e w1 ⟨rfl, hb⟩; have HM1 := Lib.hid (HM.out.below hb); have HB1 := Lib.hid hb; clear hb)
    obtain ⟨S, hS⟩ : ∃ S : ByteArray, S = ⟨ds.toArray⟩ := ⟨_, rfl⟩
    rw [← hS]
    have hSd : S.data.toList = ds := by rw [hS]
    have hSz : S.size = ds.length := by rw [← len_data, hSd]
    have HSD := Lib.hid hSd
    have HSE := Lib.hid hS
    clear hS hSd
    go_loopw [9] (fun _ w' => ∃ pos : Nat, pos ≤ S.size ∧ w' = w1.iter S pos ∧ Hid (ds.all (isdig hex) = (ds.drop pos).all (isdig hex))) (fun _ w' => S.size - w'.iterPos w1.heap.size)
    case atStart => exact ⟨0, Nat.zero_le _, rfl, Lib.hid rfl⟩
    case round =>
      obtain ⟨pos, hps, rfl, hc⟩ := hrel
      have HBI : Hid (∀ p, Below w.heap.size w (w1.iter S p)) := Lib.hid (fun p => HB1.out.trans ((iter_bel w1 S p).mono HB1.out.size))
      by_cases hp : pos < S.size
      · have hdr := drop_at S pos hp
        rw [HSD.out] at hdr
        have hnx : ∀ ty, (Instr.next (.pointer (some ⟨w1.heap.size, 0, none⟩)) true ty).run Tryz.prog (w1.iter S pos) = _ := fun ty => run_next_any w1 S pos ty hp
        have hal := hc.out
        rw [hdr, List.all_cons] at hal
        have HAL := Lib.hid hal
        clear hal hdr
        by_cases hgt : 102 < (Utf8.decode S pos).1
        · have HBAD : Hid (isdig hex S[pos] = false) := Lib.hid (dig_hi hex _ (by
            rcases Nat.lt_or_ge S[pos].toNat 128 with h | h
            · rw [decode_ascii S pos hp h] at hgt; exact hgt
            · omega))
          have hgt' : 102 < ((Utf8.decode S pos).1 : Int) := by omega
          have HRE : Hid (([], false) = R) := Lib.hid (by
            have := HAL.out
            rw [HBAD.out, Bool.false_and] at this
            have h2 := HR.out
            rw [this, if_neg (by decide)] at h2
            exact h2)
          clear hgt
          generalize (Utf8.decode S pos).1 = x at *
          go_wp2
          go_ret2
          exact RowQ.of HRE.out (HBI.out _)
        · have hlt : S[pos].toNat < 128 := by
            rcases Nat.lt_or_ge S[pos].toNat 128 with h | h
            · exact h
            · exact absurd (decode_high S pos hp h).1 (by omega)
          have hdec := decode_ascii S pos hp hlt
          rw [hdec] at hnx hgt
          obtain ⟨i, hi, hi1, hi2⟩ := ix_alph hex S[pos].toNat (by omega)
          have hcc : S[pos].toNat.toUInt8 = S[pos] := by simp
          rw [hcc] at hi1 hi2
          have HI := Lib.hid (fun w => ixb_c (alph hex) S[pos].toNat i hi w)
          generalize hcx : S[pos].toNat = x at *
          have hx1 : (x : Int) ≤ 102 := by omega
          have hx2 : 0 ≤ (x : Int) := by omega
          clear hi hcc hcx hdec hgt hlt
          by_cases hdg : isdig hex S[pos] = true
          · have hi0 := hi1 hdg
            have HNX : Hid (ds.all (isdig hex) = (ds.drop (pos + 1)).all (isdig hex)) := Lib.hid (by rw [HAL.out, hdg, Bool.true_and])
            clear hi1 hi2 hdg
            go_wp2_with (go_at_call 57; refine (HI.out _).mono ?_; rintro e w' ⟨rfl, rfl⟩)
            go_roundw
            case rel => exact ⟨pos + 1, by omega, rfl, HNX⟩
            case measure => rw [World.iterPos_iter, World.iterPos_iter]; omega
          · have hdg' : isdig hex S[pos] = false := by simpa using hdg
            have hi0 := hi2 hdg'
            have HRE : Hid (([], false) = R) := Lib.hid (by
              have := HAL.out
              rw [hdg', Bool.false_and] at this
              have h2 := HR.out
              rw [this, if_neg (by decide)] at h2
              exact h2)
            clear hi1 hi2 hdg hdg'
            go_wp2_with (go_at_call 57; refine (HI.out _).mono ?_; rintro e w' ⟨rfl, rfl⟩)
            go_ret2
            exact RowQ.of HRE.out (HBI.out _)
      · have hnx : ∀ ty, (Instr.next (.pointer (some ⟨w1.heap.size, 0, none⟩)) true ty).run Tryz.prog (w1.iter S pos) = _ := fun ty => run_next_end w1 S pos ty hp
        have HRE : Hid ((ds, !ds.isEmpty && !odd s.data.toList) = R) := Lib.hid (by
          have := hc.out
          rw [List.drop_of_length_le (by omega), List.all_nil] at this
          have h2 := HR.out
          rw [this, if_pos rfl] at h2
          exact h2)
        have HMI : Hid (ML (w1.iter S pos)) := Lib.hid (HM1.out.below (iter_bel w1 S pos))
        clear hc
        have HC := Lib.hid (fun w p b h => hasp_c s p b h w)
        have HF := Lib.hid (fun w p b h => hass_c s p b h (by omega) w)
        have HT := Lib.hid (fun w hm p b h => cont_c s p b h hs w hm)
        have HS0 : Hid (ds = [] → S.toList = []) := Lib.hid (fun h => by rw [Go.ByteArray.toList_eq, HSD.out, h])
        have HS1 : Hid (ds ≠ [] → ¬ S.toList = []) := Lib.hid (fun h => by rw [Go.ByteArray.toList_eq, HSD.out]; exact h)
        by_cases h0 : ds = []
        · have hS0 := HS0.out h0
          have HE2 : Hid ((ds, false) = R) := Lib.hid (by have := HRE.out; rw [h0] at this ⊢; exact this)
          clear h0 HRE
          rcases HO.out with ⟨h1, h2⟩ | ⟨h1, h2, h3⟩ | ⟨h1, h2, h3⟩
          · have H1 := Lib.hid h1
            clear h1 h2
            go_wp2_with (go_at_call 58; refine (HC.out _ [95] true H1.out).mono ?_; rintro e w' ⟨rfl, rfl⟩)
            go_ret2
            exact RowQ.of2 HSE.out HE2.out (HBI.out _)
          · have H1 := Lib.hid h1
            have H2 := Lib.hid h2
            clear h1 h2 h3
            go_wp2_with (first | (go_at_call 58; refine (HC.out _ [95] false H1.out).mono ?_; rintro e w' ⟨rfl, rfl⟩) | (go_at_call 59; refine (HF.out _ [95] true H2.out).mono ?_; rintro e w' ⟨rfl, rfl⟩))
            go_ret2
            exact RowQ.of2 HSE.out HE2.out (HBI.out _)
          · have H1 := Lib.hid h1
            have H2 := Lib.hid h2
            have H3 := Lib.hid h3
            clear h1 h2 h3
            generalize odd s.data.toList = b3 at *
            go_wp2_with (first | (go_at_call 58; refine (HC.out _ [95] false H1.out).mono ?_; rintro e w' ⟨rfl, rfl⟩) | (go_at_call 59; refine (HF.out _ [95] false H2.out).mono ?_; rintro e w' ⟨rfl, rfl⟩) | (go_at_call 60; refine (HT.out _ HMI.out [95, 95] b3 H3.out).mono ?_; rintro e w' ⟨rfl, rfl⟩))
            go_ret2
            exact RowQ.of2 HSE.out HE2.out (HBI.out _)
        · have hS0 := HS1.out h0
          have hS2 : S.toList.isEmpty = false := by cases hq : S.toList with | nil => exact absurd hq hS0 | cons a l => rfl
          have HE2 : Hid ((ds, !odd s.data.toList) = R) := Lib.hid (by
            have e : ds.isEmpty = false := by cases ds with | nil => exact absurd rfl h0 | cons a l => rfl
            have := HRE.out
            rw [e] at this
            exact this)
          clear h0 HRE
          rcases HO.out with ⟨h1, h2⟩ | ⟨h1, h2, h3⟩ | ⟨h1, h2, h3⟩
          · have H1 := Lib.hid h1
            have H2 := Lib.hid h2
            clear h1 h2
            go_wp2_with (go_at_call 58; refine (HC.out _ [95] true H1.out).mono ?_; rintro e w' ⟨rfl, rfl⟩)
            go_ret2
            exact RowQ.of2 HSE.out (by have := HE2.out; rw [H2.out] at this; exact this) (HBI.out _)
          · have H1 := Lib.hid h1
            have H2 := Lib.hid h2
            have H3 := Lib.hid h3
            clear h1 h2 h3
            go_wp2_with (first | (go_at_call 58; refine (HC.out _ [95] false H1.out).mono ?_; rintro e w' ⟨rfl, rfl⟩) | (go_at_call 59; refine (HF.out _ [95] true H2.out).mono ?_; rintro e w' ⟨rfl, rfl⟩))
            go_ret2
            exact RowQ.of2 HSE.out (by have := HE2.out; rw [H3.out] at this; exact this) (HBI.out _)
          · have H1 := Lib.hid h1
            have H2 := Lib.hid h2
            have H3 := Lib.hid h3
            clear h1 h2 h3
            generalize odd s.data.toList = b3 at *
            go_wp2_with (first | (go_at_call 58; refine (HC.out _ [95] false H1.out).mono ?_; rintro e w' ⟨rfl, rfl⟩) | (go_at_call 59; refine (HF.out _ [95] false H2.out).mono ?_; rintro e w' ⟨rfl, rfl⟩) | (go_at_call 60; refine (HT.out _ HMI.out [95, 95] b3 H3.out).mono ?_; rintro e w' ⟨rfl, rfl⟩))
            go_ret2
            exact RowQ.of2 HSE.out HE2.out (HBI.out _)
end Go.Proofs.YtjecdciabpjgcaaGreatDoor.Lx
namespace Go.Proofs.YtjecdciabpjgcaaGreatDoor.Lx
set_option linter.unusedVariables false
set_option linter.unusedSimpArgs false
open Go.RowKit Go.Proofs.YtjecdciabpjgcaaGreatDoorW.PrintWords
theorem and_most (n : Int) (h : n = 8 ∨ n = 16 ∨ n = 32 ∨ n = 64) (a : Int) (h0 : 0 ≤ a) (h1 : a < 18446744073709551616) : Go.bits .and .u64 a ((most n : Nat) : Int) = a % ((most n + 1 : Nat) : Int) := by
  have hk : ∀ m : Int, 0 ≤ m → m < 2 ^ 64 → IntKind.u64.wrap m = m := fun m a b => IntWalk.u64_in m (by omega)
  rcases h with rfl | rfl | rfl | rfl
  · exact bits_mask .u64 64 (by decide) hk 8 (by decide) a h0 (by omega)
  · exact bits_mask .u64 64 (by decide) hk 16 (by decide) a h0 (by omega)
  · exact bits_mask .u64 64 (by decide) hk 32 (by decide) a h0 (by omega)
  · exact bits_mask .u64 64 (by decide) hk 64 (by decide) a h0 (by omega)
theorem most_8 : most 8 = 255 := by decide
theorem most_16 : most 16 = 65535 := by decide
theorem most_32 : most 32 = 4294967295 := by decide
theorem most_64 : most 64 = 18446744073709551615 := by decide
theorem neg_most (n : Int) (h : n = 8 ∨ n = 16 ∨ n = 32 ∨ n = 64) (m : Nat) (hm : m ≤ most n) : Go.bits .and .u64 (IntKind.u64.wrap (-(m : Int))) ((most n : Nat) : Int) = (((most n + 1 - m) % (most n + 1) : Nat) : Int) := by
  have hw : 0 ≤ IntKind.u64.wrap (-(m : Int)) ∧ IntKind.u64.wrap (-(m : Int)) < 18446744073709551616 := by rw [IntKind.wrap_u64]; omega
  rw [and_most n h _ hw.1 hw.2, IntKind.wrap_u64]
  rcases h with rfl | rfl | rfl | rfl
  · rw [most_8] at *; omega
  · rw [most_16] at *; omega
  · rw [most_32] at *; omega
  · rw [most_64] at *; omega
theorem rowF_hex (t : List UInt8) (hex : Bool) : ∀ c ∈ (rowF t hex).1, ishex c = true := by
  intro c hc
  unfold rowF at hc
  split at hc
  · rename_i h
    have := List.all_eq_true.1 h c hc
    cases hex
    · have h2 : ∀ n : Fin 256, isdig false n.val.toUInt8 = true → ishex n.val.toUInt8 = true := by decide +kernel
      have h3 := h2 ⟨c.toNat, c.toNat_lt⟩
      simp at h3
      exact h3 this
    · exact this
  · cases hc
theorem trim_len (l p : List UInt8) : (Lib.trimPrefix l p).length ≤ l.length := by
  unfold Lib.trimPrefix; split <;> simp
theorem signF_len (l : List UInt8) : (signF l).2.length ≤ l.length := by
  unfold signF; split
  · simp
  · exact trim_len _ _
theorem rowF_len (t : List UInt8) (hex : Bool) : (rowF t hex).1.length ≤ t.length := by
  unfold rowF; split
  · exact List.length_filter_le _ _
  · simp
theorem size_arr (l : List UInt8) : (⟨l.toArray⟩ : ByteArray).size = l.length := by simp [ByteArray.size]
structure IntQ (w : World) (r : Nat × Bool) (e : Ending) (w' : World) : Prop where mk ::
  (out : e = .returned (.tuple #[.int .u64 (r.1 : Int), .bool r.2]) ∧ Below w.heap.size w w')
theorem IntQ.of {w w' : World} {r : Nat × Bool} {n : Nat} {b : Bool} (h : (n, b) = r) (hb : Below w.heap.size w w') : IntQ w r (.returned (.tuple #[.int .u64 (n : Int), .bool b])) w' := by
  subst h; exact ⟨rfl, hb⟩
/-- Behind the digits: what the number comes to. -/
def intE (bits : Int) (neg : Bool) (fine : Bool) (K : Option Nat) : Nat × Bool :=
  if right bits = true ∧ fine = true then
    match K with
    | none => (0, false)
    | some n => if (neg = true ∧ most bits / 2 + 1 < n) ∨ most bits < n then (0, false) else if neg = true then ((most bits + 1 - n) % (most bits + 1), true) else (n, true)
  else (0, false)
theorem intF_eq (bits : Int) (l : List UInt8) : intF bits l = intE bits (signF l).1 (rowF (hexF (signF l).2).2 (hexF (signF l).2).1).2 (numK (if (hexF (signF l).2).1 then 16 else 10) (rowF (hexF (signF l).2).2 (hexF (signF l).2).1).1 0) := rfl
set_option maxRecDepth 1000000 in
theorem int_c (s : ByteArray) (bits : Int) (hs : s.size ≤ 4000000000) (w : World) (hm : ML w) (R : Nat × Bool) (hR : intF bits s.data.toList = R) :
    Calls Tryz.prog 10 #[.int .i64 bits, .string s] w (IntQ w R) := by
  rw [intF_eq] at hR
  obtain ⟨neg, s1, hsg⟩ : ∃ neg s1, signF s.data.toList = (neg, s1) := ⟨_, _, rfl⟩
  have hl1 : s1.length ≤ s.size := by have := signF_len s.data.toList; rw [hsg, len_data] at this; exact this
  rw [hsg] at hR
  obtain ⟨hex, t, hhx⟩ : ∃ hex t, hexF s1 = (hex, t) := ⟨_, _, rfl⟩
  have hl2 : t.length ≤ s1.length := by have := trim_len s1 [48, 120]; unfold hexF at hhx; obtain ⟨_, rfl⟩ := Prod.mk.inj hhx; exact this
  simp only at hR
  rw [hhx] at hR
  simp only at hR
  obtain ⟨d, fine, hrw⟩ : ∃ d fine, rowF t hex = (d, fine) := ⟨_, _, rfl⟩
  have hl3 : d.length ≤ t.length := by have := rowF_len t hex; rw [hrw] at this; exact this
  have hdh : ∀ c ∈ d, ishex c = true := by have := rowF_hex t hex; rw [hrw] at this; exact this
  rw [hrw] at hR
  simp only at hR
  obtain ⟨K, hK⟩ : ∃ K, numK (if hex then 16 else 10) d 0 = K := ⟨_, rfl⟩
  rw [hK] at hR
  obtain ⟨base, hbase⟩ : ∃ base : Nat, base = if hex then 16 else 10 := ⟨_, rfl⟩
  have hb : base = 10 ∨ base = 16 := by cases hex <;> simp [hbase]
  rw [← hbase] at hK
  have HR := Lib.hid hR
  have HM := Lib.hid hm
  have C1 := Lib.hid (fun w => sign_c s neg s1 hsg w)
  have C2 := Lib.hid (fun w => cutp_c ⟨s1.toArray⟩ [48, 120] hex t (by unfold hexF at hhx; exact (Prod.mk.inj hhx).1) (by unfold hexF at hhx; exact (Prod.mk.inj hhx).2) w)
  have C3 := Lib.hid (fun w hm => row_c ⟨t.toArray⟩ hex (by rw [size_arr]; omega) w hm (d, fine) hrw)
  have C4 := Lib.hid (fun w => number_c ⟨d.toArray⟩ base hb hdh (by rw [size_arr]; omega) w K hK)
  have HBASE := Lib.hid hbase
  clear hR hm hsg hhx hrw hdh hK hb hbase hl1 hl2 hl3
  go_enter Tryz.func10, Tryz.ntmps10
  go_upto_if 32 with (first | (go_at_call 22; refine (C1.out _).mono ?_; rintro e w1 ⟨rfl, rfl⟩) | (go_at_call 23; refine (C2.out _).mono ?_; rintro e w1 ⟨rfl, rfl⟩) | (go_at_call 24; refine (C3.out _ HM.out).mono ?_; intro e w1 hq; obtain ⟨he, hb⟩ := hq.out; subst he; have HM1 := Lib.hid (HM.out.below hb); have HB1 := Lib.hid hb; clear hb hq))
  go_cut [12] (fun v wx => v = .int .u64 (base : Int) ∧ w1 = wx)
  case first =>
    cases hex
    · go_wp2
      go_meet
      exact ⟨by rw [HBASE.out]; rfl, rfl⟩
    · go_wp2
      go_meet
      exact ⟨by rw [HBASE.out]; rfl, rfl⟩
  case rest =>
    obtain ⟨rfl, rfl⟩ := hcut
    go_upto_region 8 with (go_at_call 25; refine (C4.out _).mono ?_; intro e w2 hq; obtain ⟨he, hb⟩ := hq.out; subst he; have HB2 := Lib.hid (HB1.out.trans (hb.mono HB1.out.size)); clear hb hq)
    by_cases hri : right bits = true
    · have hri4 : bits = 8 ∨ bits = 16 ∨ bits = 32 ∨ bits = 64 := by unfold right at hri; simpa [or_assoc] using hri
      have HNM := Lib.hid (fun m hm => neg_most bits hri4 m hm)
      cases fine
      · have HE : Hid ((0, false) = R) := Lib.hid (by have := HR.out; unfold intE at this; rw [if_neg (by simp)] at this; exact this)
        rcases hri4 with rfl | rfl | rfl | rfl
        all_goals
          go_wp2
          go_ret2
          exact IntQ.of HE.out HB2.out
      · cases K with
        | none =>
          have HE : Hid ((0, false) = R) := Lib.hid (by have := HR.out; unfold intE at this; rw [if_pos ⟨hri, rfl⟩] at this; exact this)
          rcases hri4 with rfl | rfl | rfl | rfl
          all_goals
            simp only [numR]
            go_wp2
            go_ret2
            exact IntQ.of HE.out HB2.out
        | some n =>
          have HE : Hid ((if (neg = true ∧ most bits / 2 + 1 < n) ∨ most bits < n then ((0, false) : Nat × Bool) else if neg = true then ((most bits + 1 - n) % (most bits + 1), true) else (n, true)) = R) := Lib.hid (by have := HR.out; unfold intE at this; rw [if_pos ⟨hri, rfl⟩] at this; exact this)
          clear hri
          rcases hri4 with rfl | rfl | rfl | rfl
          · rw [most_8] at HE HNM
            cases neg
            · by_cases h1 : 255 < n
              · have h1' : (255 : Int) < (n : Int) := by omega
                have HE2 : Hid ((0, false) = R) := Lib.hid (by have := HE.out; rw [if_pos (.inr h1)] at this; exact this)
                clear h1
                simp only [numR]
                go_wp2
                go_ret2
                exact IntQ.of HE2.out HB2.out
              · have h1' : (n : Int) ≤ (255 : Int) := by omega
                have HE2 : Hid ((n, true) = R) := Lib.hid (by have := HE.out; rw [if_neg (by simp; omega), if_neg (by simp)] at this; exact this)
                clear h1
                simp only [numR]
                go_wp2
                go_ret2
                exact IntQ.of HE2.out HB2.out
            · by_cases h1 : 128 < n
              · have h1' : (128 : Int) < (n : Int) := by omega
                have HE2 : Hid ((0, false) = R) := Lib.hid (by have := HE.out; rw [if_pos (.inl ⟨rfl, by omega⟩)] at this; exact this)
                clear h1
                simp only [numR]
                go_wp2
                go_ret2
                exact IntQ.of HE2.out HB2.out
              · have h1' : (n : Int) ≤ (128 : Int) := by omega
                have h2' : (n : Int) ≤ (255 : Int) := by omega
                have HE2 : Hid (((255 + 1 - n) % (255 + 1), true) = R) := Lib.hid (by have := HE.out; rw [if_neg (by simp; omega), if_pos rfl] at this; exact this)
                have HNV := Lib.hid (HNM.out n (by omega))
                clear h1
                simp only [numR]
                go_wp2
                go_ret2
                have := IntQ.of (w := w) HE2.out HB2.out
                rw [← HNV.out] at this
                exact this
          · rw [most_16] at HE HNM
            cases neg
            · by_cases h1 : 65535 < n
              · have h1' : (65535 : Int) < (n : Int) := by omega
                have HE2 : Hid ((0, false) = R) := Lib.hid (by have := HE.out; rw [if_pos (.inr h1)] at this; exact this)
                clear h1
                simp only [numR]
                go_wp2
                go_ret2
                exact IntQ.of HE2.out HB2.out
              · have h1' : (n : Int) ≤ (65535 : Int) := by omega
                have HE2 : Hid ((n, true) = R) := Lib.hid (by have := HE.out; rw [if_neg (by simp; omega), if_neg (by simp)] at this; exact this)
                clear h1
                simp only [numR]
                go_wp2
                go_ret2
                exact IntQ.of HE2.out HB2.out
            · by_cases h1 : 32768 < n
              · have h1' : (32768 : Int) < (n : Int) := by omega
                have HE2 : Hid ((0, false) = R) := Lib.hid (by have := HE.out; rw [if_pos (.inl ⟨rfl, by omega⟩)] at this; exact this)
                clear h1
                simp only [numR]
                go_wp2
                go_ret2
                exact IntQ.of HE2.out HB2.out
              · have h1' : (n : Int) ≤ (32768 : Int) := by omega
                have h2' : (n : Int) ≤ (65535 : Int) := by omega
                have HE2 : Hid (((65535 + 1 - n) % (65535 + 1), true) = R) := Lib.hid (by have := HE.out; rw [if_neg (by simp; omega), if_pos rfl] at this; exact this)
                have HNV := Lib.hid (HNM.out n (by omega))
                clear h1
                simp only [numR]
                go_wp2
                go_ret2
                have := IntQ.of (w := w) HE2.out HB2.out
                rw [← HNV.out] at this
                exact this
          · rw [most_32] at HE HNM
            cases neg
            · by_cases h1 : 4294967295 < n
              · have h1' : (4294967295 : Int) < (n : Int) := by omega
                have HE2 : Hid ((0, false) = R) := Lib.hid (by have := HE.out; rw [if_pos (.inr h1)] at this; exact this)
                clear h1
                simp only [numR]
                go_wp2
                go_ret2
                exact IntQ.of HE2.out HB2.out
              · have h1' : (n : Int) ≤ (4294967295 : Int) := by omega
                have HE2 : Hid ((n, true) = R) := Lib.hid (by have := HE.out; rw [if_neg (by simp; omega), if_neg (by simp)] at this; exact this)
                clear h1
                simp only [numR]
                go_wp2
                go_ret2
                exact IntQ.of HE2.out HB2.out
            · by_cases h1 : 2147483648 < n
              · have h1' : (2147483648 : Int) < (n : Int) := by omega
                have HE2 : Hid ((0, false) = R) := Lib.hid (by have := HE.out; rw [if_pos (.inl ⟨rfl, by omega⟩)] at this; exact this)
                clear h1
                simp only [numR]
                go_wp2
                go_ret2
                exact IntQ.of HE2.out HB2.out
              · have h1' : (n : Int) ≤ (2147483648 : Int) := by omega
                have h2' : (n : Int) ≤ (4294967295 : Int) := by omega
                have HE2 : Hid (((4294967295 + 1 - n) % (4294967295 + 1), true) = R) := Lib.hid (by have := HE.out; rw [if_neg (by simp; omega), if_pos rfl] at this; exact this)
                have HNV := Lib.hid (HNM.out n (by omega))
                clear h1
                simp only [numR]
                go_wp2
                go_ret2
                have := IntQ.of (w := w) HE2.out HB2.out
                rw [← HNV.out] at this
                exact this
          · rw [most_64] at HE HNM
            cases neg
            · by_cases h1 : 18446744073709551615 < n
              · have h1' : (18446744073709551615 : Int) < (n : Int) := by omega
                have HE2 : Hid ((0, false) = R) := Lib.hid (by have := HE.out; rw [if_pos (.inr h1)] at this; exact this)
                clear h1
                simp only [numR]
                go_wp2
                go_ret2
                exact IntQ.of HE2.out HB2.out
              · have h1' : (n : Int) ≤ (18446744073709551615 : Int) := by omega
                have HE2 : Hid ((n, true) = R) := Lib.hid (by have := HE.out; rw [if_neg (by simp; omega), if_neg (by simp)] at this; exact this)
                clear h1
                simp only [numR]
                go_wp2
                go_ret2
                exact IntQ.of HE2.out HB2.out
            · by_cases h1 : 9223372036854775808 < n
              · have h1' : (9223372036854775808 : Int) < (n : Int) := by omega
                have HE2 : Hid ((0, false) = R) := Lib.hid (by have := HE.out; rw [if_pos (.inl ⟨rfl, by omega⟩)] at this; exact this)
                clear h1
                simp only [numR]
                go_wp2
                go_ret2
                exact IntQ.of HE2.out HB2.out
              · have h1' : (n : Int) ≤ (9223372036854775808 : Int) := by omega
                have h2' : (n : Int) ≤ (18446744073709551615 : Int) := by omega
                have HE2 : Hid (((18446744073709551615 + 1 - n) % (18446744073709551615 + 1), true) = R) := Lib.hid (by have := HE.out; rw [if_neg (by simp; omega), if_pos rfl] at this; exact this)
                have HNV := Lib.hid (HNM.out n (by omega))
                clear h1
                simp only [numR]
                go_wp2
                go_ret2
                have := IntQ.of (w := w) HE2.out HB2.out
                rw [← HNV.out] at this
                exact this
    · have HE : Hid ((0, false) = R) := Lib.hid (by have := HR.out; unfold intE at this; rw [if_neg (fun h => hri h.1)] at this; exact this)
      have h8 : (bits != 8) = true := by simp only [bne_iff_ne, ne_eq]; rintro rfl; exact hri rfl
      have h16 : (bits != 16) = true := by simp only [bne_iff_ne, ne_eq]; rintro rfl; exact hri rfl
      have h32 : (bits != 32) = true := by simp only [bne_iff_ne, ne_eq]; rintro rfl; exact hri rfl
      have h64 : (bits != 64) = true := by simp only [bne_iff_ne, ne_eq]; rintro rfl; exact hri rfl
      clear hri
      go_wp2
      go_ret2
      exact IntQ.of HE.out HB2.out
end Go.Proofs.YtjecdciabpjgcaaGreatDoor.Lx
namespace Go.Proofs.YtjecdciabpjgcaaGreatDoor.Lz
set_option linter.unusedVariables false
set_option linter.unusedSimpArgs false
open Go.RowKit Go.Proofs.YtjecdciabpjgcaaGreatDoorW.PrintWords Go.Proofs.YtjecdciabpjgcaaGreatDoor.Lx
def B64 : Nat := 18446744073709551616
theorem B64_2 : 2 ≤ B64 := by decide
def nu (l : List Nat) : List Int := l.map fun (x : Nat) => (x : Int)
theorem nu_len (l : List Nat) : (nu l).length = l.length := by simp [nu]
theorem nu_app (a b : List Nat) : nu (a ++ b) = nu a ++ nu b := by simp [nu]
/-- A row of words that can be read. -/
structure LR (W : World) (v : Value) (l : List Nat) : Prop where mk ::
  (out : ∃ A c, v = .slice A l.length c ∧ l.length ≤ c ∧ ReadsInt W .u64 A l.length (nu l))
theorem LR.below {W W1 : World} {v : Value} {l : List Nat} (h : LR W v l) (hb : Below W.heap.size W W1) : LR W1 v l := by
  obtain ⟨A, c, h1, h2, h3⟩ := h.out
  exact ⟨A, c, h1, h2, h3.below hb⟩
theorem LR.drewN {W : World} {v : Value} {l : List Nat} (h : LR W v l) (k : Nat) : LR (W.drewN k) v l := h.below (pw_below_drewN (Below.refl _ _) _)
/-- A number in words. -/
def LW (W : World) (v : Value) (n : Nat) : Prop := LR W v (wds B64 n)
theorem get_nu (l : List Nat) (i : Nat) (x : Nat) (h : l[i]? = some x) : (nu l).getD i 0 = (x : Int) := by
  simp [nu, List.getD_eq_getElem?_getD, h]
theorem reads_at {W : World} {A : Option Addr} {l : List Nat} (h : ReadsInt W .u64 A l.length (nu l)) (i x : Nat) (hx : l[i]? = some x) : ∃ ad, A = some ad ∧ W.cell? (ad.add i) = some (.int .u64 (x : Int)) := by
  have hi : i < l.length := (List.getElem?_eq_some_iff.1 hx).1
  obtain ⟨ad, e, hc⟩ := h.2.2 (by omega)
  exact ⟨ad, e, by rw [hc i hi, get_nu l i x hx]⟩
def numV : Value → Nat
  | .int _ n => n.toNat
  | _ => 0
def lenV : Value → Nat
  | .slice _ n _ => n
  | _ => 0
structure LwQ (w : World) (n : Nat) (e : Ending) (w' : World) : Prop where mk ::
  (out : ∃ v, e = .returned v ∧ LW w' v n ∧ Below w.heap.size w w')
def CtR (w : World) (A : Option Addr) (c : Nat) (l : List Nat) (v0 : Value) (wr : World) : Prop :=
  ∃ k : Nat, v0 = .slice A k c ∧ k ≤ l.length ∧ strp (l.take k) = strp l ∧ Below w.heap.size w wr
set_option maxRecDepth 1000000 in
set_option maxHeartbeats 2000000 in
theorem cut_c (l : List Nat) (hl : ∀ x ∈ l, x < B64) (hlen : l.length ≤ 1000000000) (v : Value) (w : World) (h : LR w v l) : Calls Tryz.prog 136 #[v] w (LwQ w (val B64 l)) := by
  obtain ⟨A, c, rfl, hc, hr⟩ := h.out
  have HR := Lib.hid hr
  have HV : Hid (strp l = wds B64 (val B64 l)) := Lib.hid (strp_val B64 B64_2 l hl)
  have HA : Hid (CtR w A c l (.slice A l.length c) w) := Lib.hid ⟨l.length, rfl, Nat.le_refl _, by rw [List.take_length], Below.refl _ _⟩
  clear h hr hl
  go_enter Tryz.func136, Tryz.ntmps136
  go_wp2
  go_loopw [0] (CtR w A c l) (fun v0 _ => lenV v0)
  case atStart => exact HA.out
  case round =>
    obtain ⟨k, rfl, hk, hs, hb⟩ := hrel
    have HB := Lib.hid hb
    have HS := Lib.hid hs
    clear hb hs HA
    by_cases hk0 : k = 0
    · subst hk0
      have hE : Hid (wds B64 (val B64 l) = []) := Lib.hid (by rw [← HV.out, ← HS.out]; rfl)
      go_wp2
      go_ret
      exact ⟨_, rfl, ⟨A, c, by rw [hE.out]; rfl, by rw [hE.out]; exact Nat.zero_le _, by rw [hE.out]; exact ⟨rfl, by simp, fun h => absurd h (by simp)⟩⟩, HB.out⟩
    · obtain ⟨j, rfl⟩ : ∃ j, k = j + 1 := ⟨k - 1, by omega⟩
      obtain ⟨x, hx⟩ : ∃ x, l[j]? = some x := ⟨l[j]'(by omega), List.getElem?_eq_getElem _⟩
      obtain ⟨ad, hA, hcell⟩ := reads_at (HR.out) j x hx
      subst hA
      have hcell := (HB.out.cell (World.block_lt_of_cell? _ _ hcell)).trans hcell
      have htk : l.take (j + 1) = l.take j ++ [x] := by
        rw [List.take_add_one, hx]; rfl
      have e1 : ((j + 1 : Nat) : Int) - 1 = (j : Int) := by push_cast; omega
      have e2 : 0 < ((j + 1 : Nat) : Int) := by omega
      by_cases hx0 : x = 0
      · have q : ((x : Int) == 0) = true := by rw [hx0]; rfl
        have HS2 : Hid (strp (l.take j) = strp l) := Lib.hid (by rw [← HS.out, htk, strp_snoc, if_pos hx0])
        clear htk hx
        go_wp2
        go_roundw
        case rel => exact ⟨j, rfl, by omega, HS2.out, HB.out⟩
        case measure => simp only [lenV]; omega
      · have q : ((x : Int) == 0) = false := by simp only [beq_eq_false_iff_ne, ne_eq]; omega
        have HS2 : Hid (wds B64 (val B64 l) = l.take (j + 1)) := Lib.hid (by rw [← HV.out, ← HS.out, htk, strp_snoc, if_neg hx0])
        clear htk hx
        go_wp2
        go_ret
        have hlt : (l.take (j + 1)).length = j + 1 := by rw [List.length_take]; omega
        refine ⟨_, rfl, ⟨some ad, c, by rw [HS2.out, hlt]; rfl, by rw [HS2.out, hlt]; omega, ?_⟩, HB.out⟩
        rw [HS2.out, hlt]
        have := ((HR.out).take_ (j + 1) (by omega)).below HB.out
        have e : nu (l.take (j + 1)) = (nu l).take (j + 1) := by unfold nu; rw [List.map_take]
        rw [e]
        exact this
/-- Are the rows the same above a place? -/
def BlR (w : World) (a b : List Nat) (v5 : Value) (wr : World) : Prop :=
  ∃ i : Nat, v5 = .int .i64 ((i : Int) - 1) ∧ i ≤ a.length ∧ a.drop i = b.drop i ∧ Below w.heap.size w wr
def numP : Value → Nat
  | .int _ n => (n + 1).toNat
  | _ => 0
structure BoQ (w : World) (b : Bool) (e : Ending) (w' : World) : Prop where mk ::
  (out : e = .returned (.bool b) ∧ Below w.heap.size w w')
theorem split_at (l : List Nat) (i x : Nat) (h : l[i]? = some x) : l = l.take i ++ x :: l.drop (i + 1) := by
  obtain ⟨hi, rfl⟩ := List.getElem?_eq_some_iff.1 h
  rw [← List.drop_eq_getElem_cons hi, List.take_append_drop]
set_option maxRecDepth 1000000 in
set_option maxHeartbeats 4000000 in
theorem below_c (a b : Nat) (va vb : Value) (w : World) (ha : LW w va a) (hb : LW w vb b) (hla : (wds B64 a).length ≤ 1000000000) (hlb : (wds B64 b).length ≤ 1000000000) : Calls Tryz.prog 137 #[va, vb] w (BoQ w (decide (a < b))) := by
  obtain ⟨A, c, rfl, hc, hr⟩ := ha.out
  obtain ⟨C, d, rfl, hd, hs⟩ := hb.out
  have HR := Lib.hid hr
  have HS := Lib.hid hs
  have HLA : Hid (∀ x ∈ wds B64 a, x < B64) := Lib.hid (wds_lt B64 B64_2 a)
  have HLB : Hid (∀ x ∈ wds B64 b, x < B64) := Lib.hid (wds_lt B64 B64_2 b)
  have HVA := Lib.hid (val_wds B64 B64_2 a)
  have HVB := Lib.hid (val_wds B64 B64_2 b)
  have HM1 := Lib.hid (wds_len_mono B64 B64_2 a b)
  have HM2 := Lib.hid (wds_len_mono B64 B64_2 b a)
  generalize wds B64 a = l at *
  generalize wds B64 b = m at *
  clear ha hb hr hs hc hd
  by_cases hlen : l.length = m.length
  · have q : ((l.length : Int) != (m.length : Int)) = false := by rw [hlen]; simp
    have HA : Hid (BlR w l m (.int .i64 ((l.length : Int) - 1)) w) := Lib.hid ⟨l.length, rfl, Nat.le_refl _, by rw [List.drop_length, hlen, List.drop_length], Below.refl _ _⟩
    obtain ⟨n, hn⟩ : ∃ n, l.length = n := ⟨_, rfl⟩
    have hm : m.length = n := by rw [← hlen, hn]
    rw [hn] at q HA HR ⊢
    rw [hm] at q HS ⊢
    have HN := Lib.hid hn
    have HNM := Lib.hid hm
    have hnb : (n : Int) ≤ 1000000000 := by omega
    clear hlen hn hm HM1 HM2
    go_enter Tryz.func137, Tryz.ntmps137
    go_wp2
    go_loopw [5] (BlR w l m) (fun v5 _ => numP v5)
    case atStart => exact HA.out
    case round =>
      obtain ⟨i, rfl, hi, hd, hb⟩ := hrel
      have HB := Lib.hid hb
      have HD := Lib.hid hd
      rw [HN.out] at hi
      clear hb hd HA
      by_cases hi0 : i = 0
      · subst hi0
        have hE : Hid (decide (a < b) = false) := Lib.hid (by
          have h : l = m := HD.out
          have : a = b := by rw [← HVA.out, ← HVB.out, h]
          rw [this]; simp)
        have e0 : ((0 : Nat) : Int) - 1 = -1 := rfl
        rw [e0]
        go_wp2
        go_ret
        exact ⟨by rw [hE.out]; rfl, HB.out⟩
      · obtain ⟨j, rfl⟩ : ∃ j, i = j + 1 := ⟨i - 1, by omega⟩
        obtain ⟨x, hx⟩ : ∃ x, l[j]? = some x := ⟨l[j]'(by have := HN.out; omega), List.getElem?_eq_getElem _⟩
        obtain ⟨y, hy⟩ : ∃ y, m[j]? = some y := ⟨m[j]'(by have := HNM.out; omega), List.getElem?_eq_getElem _⟩
        have hr := HR.out
        rw [← HN.out] at hr
        have hs := HS.out
        rw [← HNM.out] at hs
        obtain ⟨ad, hA, hcx⟩ := reads_at hr j x hx
        obtain ⟨ae, hC, hcy⟩ := reads_at hs j y hy
        subst hA
        subst hC
        replace hcx := (HB.out.cell (World.block_lt_of_cell? _ _ hcx)).trans hcx
        replace hcy := (HB.out.cell (World.block_lt_of_cell? _ _ hcy)).trans hcy
        have e1 : ((j + 1 : Nat) : Int) - 1 = (j : Int) := by push_cast; omega
        have e0 : 0 ≤ (j : Int) := by omega
        have e2 : (j : Int) < (n : Int) := by omega
        rw [e1]
        have HX := Lib.hid hx
        have HY := Lib.hid hy
        clear hr hs hx hy e1
        by_cases hxy : x = y
        · have q2 : ((x : Int) != (y : Int)) = false := by rw [hxy]; simp
          have HD2 : Hid (l.drop j = m.drop j) := Lib.hid (by
            obtain ⟨h1, h2⟩ := List.getElem?_eq_some_iff.1 HX.out
            obtain ⟨h3, h4⟩ := List.getElem?_eq_some_iff.1 HY.out
            rw [List.drop_eq_getElem_cons h1, List.drop_eq_getElem_cons h3, h2, h4, hxy, HD.out])
          clear hxy
          go_wp2
          go_quiet (fail)
          go_wp2
          go_roundw
          case rel => exact ⟨j, rfl, by have := HN.out; omega, HD2.out, pw_below_drewN HB.out _⟩
          case measure => simp only [numP]; omega
        · have q2 : ((x : Int) != (y : Int)) = true := by simp only [bne_iff_ne, ne_eq]; omega
          have HE : Hid (decide (a < b) = decide (x < y)) := Lib.hid (by
            have s1 := split_at l j x HX.out
            have s2 := split_at m j y HY.out
            rw [HD.out] at s1
            have hl1 : ∀ z ∈ l.take j, z < B64 := fun z hz => HLA.out z (List.mem_of_mem_take hz)
            have hl2 : ∀ z ∈ m.take j, z < B64 := fun z hz => HLB.out z (List.mem_of_mem_take hz)
            have hll : (l.take j).length = (m.take j).length := by rw [List.length_take, List.length_take, HN.out, HNM.out]
            have ea : a = val B64 (l.take j ++ x :: m.drop (j + 1)) := by rw [← s1, HVA.out]
            have eb : b = val B64 (m.take j ++ y :: m.drop (j + 1)) := by rw [← s2, HVB.out]
            rcases Nat.lt_or_ge x y with h | h
            · have := val_cmp B64 B64_2 _ _ (m.drop (j + 1)) x y hl1 hl2 hll h
              rw [← ea, ← eb] at this
              rw [decide_eq_true this, decide_eq_true (by omega)]
            · have := val_cmp B64 B64_2 _ _ (m.drop (j + 1)) y x hl2 hl1 hll.symm (by omega)
              rw [← ea, ← eb] at this
              rw [decide_eq_false (by omega), decide_eq_false (by omega)])
          clear hxy
          go_wp2
          go_quiet (fail)
          go_wp2
          go_quiet (fail)
          go_wp2
          go_ret
          exact ⟨by rw [HE.out]; rfl, pw_below_drewN (pw_below_drewN HB.out _) _⟩
  · have q : ((l.length : Int) != (m.length : Int)) = true := by simp only [bne_iff_ne, ne_eq]; omega
    have HE : Hid (decide (a < b) = decide (l.length < m.length)) := Lib.hid (by
      rcases Nat.lt_or_ge l.length m.length with h | h
      · rw [decide_eq_true (HM1.out h), decide_eq_true (by omega)]
      · have := HM2.out (by omega)
        rw [decide_eq_false (by omega), decide_eq_false (by omega)])
    clear hlen HM1 HM2
    go_enter Tryz.func137, Tryz.ntmps137
    go_wp2
    go_ret
    exact ⟨by rw [HE.out]; rfl, Below.refl _ _⟩
end Go.Proofs.YtjecdciabpjgcaaGreatDoor.Lz
