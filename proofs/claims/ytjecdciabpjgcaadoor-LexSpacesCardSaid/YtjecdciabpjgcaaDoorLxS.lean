/-
  What chapter 18 (lex) and the integers of chapter 8 (literal) come to, as plain functions on lists of bytes: space, strings, words, trees. No program in sight.
-/
import Derived.Lib.Strings
import Derived.Lib.IndexMore
import Derived.Lib.Bytealg
namespace Go.Proofs.YtjecdciabpjgcaaDoor.Lx
set_option linter.unusedVariables false

/-! ### Integers as texts -/
def isdec (c : UInt8) : Bool := 48 ≤ c && c ≤ 57
def ishex (c : UInt8) : Bool := (48 ≤ c && c ≤ 57) || (97 ≤ c && c ≤ 102) || (65 ≤ c && c ≤ 70)
/-- The digits of a row. -/
def isdig (hex : Bool) (c : UInt8) : Bool := if hex then ishex c else isdec c
def dval (c : UInt8) : Nat := if c ≤ 57 then c.toNat - 48 else if c ≤ 70 then c.toNat - 55 else c.toNat - 87
def digs (t : List UInt8) : List UInt8 := t.filter (· != 95)
def odd (t : List UInt8) : Bool := Lib.hasPrefix t [95] || Lib.hasSuffix t [95] || Lib.contains t [95, 95]
def rowF (t : List UInt8) (hex : Bool) : List UInt8 × Bool :=
  if (digs t).all (isdig hex) = true then (digs t, !(digs t).isEmpty && !odd t) else ([], false)
/-- The number of digits behind n; none: it has more than 64 bits. -/
def numK (b : Nat) : List UInt8 → Nat → Option Nat
  | [], n => some n
  | c :: t, n => if (18446744073709551615 - dval c) / b < n then none else numK b t (n * b + dval c)
def signF (l : List UInt8) : Bool × List UInt8 := if Lib.hasPrefix l [45] = true then (true, l.drop 1) else (false, Lib.trimPrefix l [43])
def hexF (l : List UInt8) : Bool × List UInt8 := (Lib.hasPrefix l [48, 120], Lib.trimPrefix l [48, 120])
def most (bits : Int) : Nat := 2 ^ bits.toNat - 1
def right (bits : Int) : Bool := bits == 8 || bits == 16 || bits == 32 || bits == 64
def intF (bits : Int) (l : List UInt8) : Nat × Bool :=
  let s := signF l
  let h := hexF s.2
  let r := rowF h.2 h.1
  if right bits = true ∧ r.2 = true then
    match numK (if h.1 then 16 else 10) r.1 0 with
    | none => (0, false)
    | some n => if (s.1 = true ∧ most bits / 2 + 1 < n) ∨ most bits < n then (0, false) else if s.1 = true then ((most bits + 1 - n) % (most bits + 1), true) else (n, true)
  else (0, false)

/-! ### Space -/
def isWs (c : UInt8) : Bool := c == 32 || c == 9 || c == 10 || c == 13
/-- What is behind a comment, so deep in it; none: it doesn't end. -/
def cm : Nat → Nat → List UInt8 → Option (List UInt8)
  | 0, _, _ => none
  | f + 1, d, l =>
    match l with
    | [] => none
    | _ :: t =>
      if Lib.hasPrefix l [40, 59] = true then cm f (d + 1) (l.drop 2)
      else if Lib.hasPrefix l [59, 41] = true then (if d = 1 then some (l.drop 2) else cm f (d - 1) (l.drop 2))
      else cm f d t
/-- What is behind space; none: it doesn't end. -/
def spc : Nat → List UInt8 → Option (List UInt8)
  | 0, _ => none
  | f + 1, l =>
    match l with
    | [] => some []
    | c :: t =>
      if isWs c = true then spc f t
      else if Lib.hasPrefix l [59, 59] = true then spc f (l.dropWhile (· != 10))
      else if Lib.hasPrefix l [40, 59] = true then (match cm (l.length + 1) 0 l with | none => none | some r => spc f r)
      else some l

/-! ### Strings -/
/-- A character's bytes. -/
def utf8 (n : Nat) : List UInt8 :=
  if n < 128 then [n.toUInt8] else if n < 2048 then [(192 + n / 64).toUInt8, (128 + n % 64).toUInt8]
  else if n < 65536 then [(224 + n / 4096).toUInt8, (128 + n / 64 % 64).toUInt8, (128 + n % 64).toUInt8]
  else [(240 + n / 262144).toUInt8, (128 + n / 4096 % 64).toUInt8, (128 + n / 64 % 64).toUInt8, (128 + n % 64).toUInt8]
/-- What stands behind a backslash: its bytes, and how many signs it takes. -/
def esc (l : List UInt8) : Option (List UInt8 × Nat) :=
  match l with
  | [] => none
  | c :: t =>
    if c = 116 then some ([9], 1) else if c = 110 then some ([10], 1) else if c = 114 then some ([13], 1)
    else if c = 34 then some ([34], 1) else if c = 39 then some ([39], 1) else if c = 92 then some ([92], 1)
    else if Lib.hasPrefix l [117, 123] = true then
      let u := l.drop 2
      let ds := u.takeWhile (· != 125)
      if ds.length < u.length ∧ (rowF ds true).2 = true then
        match numK 16 (rowF ds true).1 0 with
        | none => none
        | some n => if n ≤ 1114111 ∧ ¬ (55296 ≤ n ∧ n < 57344) then some (utf8 n, ds.length + 3) else none
      else none
    else match t with
      | [] => none
      | d :: _ => if ishex c = true ∧ ishex d = true then some ([(16 * dval c + dval d).toUInt8], 2) else none
/-- A string behind its first mark: its bytes, and what is behind it. -/
def str : Nat → List UInt8 → List UInt8 → Option (List UInt8 × List UInt8)
  | 0, _, _ => none
  | f + 1, l, out =>
    match l with
    | [] => none
    | c :: t =>
      if c = 34 then some (out, t)
      else if c < 32 ∨ c = 127 then none
      else if c ≠ 92 then str f t (out ++ [c])
      else match esc t with
        | none => none
        | some (b, n) => str f (t.drop n) (out ++ b)

/-! ### Words -/
structure Tok where
  kind : Int
  text : List UInt8
  at_ : Nat
deriving DecidableEq
def isSign (c : UInt8) : Bool :=
  (48 ≤ c && c ≤ 57) || (97 ≤ c && c ≤ 122) || (65 ≤ c && c ≤ 90) ||
    [33, 35, 36, 37, 38, 39, 42, 43, 45, 46, 47, 58, 60, 61, 62, 63, 64, 92, 94, 95, 96, 124, 126].contains c
/-- The word at the front of what is not empty: it, and what is behind it. -/
def nxt (p : Nat) (l : List UInt8) : Option (Tok × List UInt8) :=
  match l with
  | [] => none
  | c :: t =>
    if c = 40 then some (⟨0, [40], p⟩, t)
    else if c = 41 then some (⟨1, [41], p⟩, t)
    else if c = 34 then (match str (t.length + 1) t [] with | none => none | some (x, r) => some (⟨3, x, p⟩, r))
    else if l.takeWhile isSign = [] then none else some (⟨2, l.takeWhile isSign, p⟩, l.dropWhile isSign)
/-- The words of what is left of a text of N bytes; e: where the last atom or string ended. -/
def toks (N : Nat) : Nat → List UInt8 → Int → Option (List Tok)
  | 0, _, _ => none
  | f + 1, l, e =>
    match spc (l.length + 1) l with
    | none => none
    | some [] => some []
    | some (c :: t) =>
      match nxt (N - (c :: t).length) (c :: t) with
      | none => none
      | some (k, r) =>
        if (k.kind = 2 ∨ k.kind = 3) ∧ ((N - (c :: t).length : Nat) : Int) = e then none
        else match toks N f r (if k.kind = 2 ∨ k.kind = 3 then ((N - r.length : Nat) : Int) else e) with
          | none => none
          | some ks => some (k :: ks)

/-! ### Trees -/
inductive F where
  | nil
  | cons (kind : Int) (text : List UInt8) (kids rest : F)
deriving DecidableEq
def F.len : F → Nat
  | .nil => 0
  | .cons _ _ _ r => r.len + 1
def F.app : F → F → F
  | .nil, g => g
  | .cons k t c r, g => .cons k t c (r.app g)
/-- Words in their brackets: what is open, the innermost first; the error, and the trees. -/
def mach : List Tok → List F → Int × F
  | [], st => match st with
    | [f] => (0, f)
    | _ => (71, .nil)
  | k :: ks, st =>
    if k.kind = 0 then (if st.length = 1001 then (72, .nil) else mach ks (.nil :: st))
    else if k.kind = 1 then
      (match st with
        | f :: g :: st' => mach ks (g.app (.cons 4 [] f .nil) :: st')
        | _ => (71, .nil))
    else (match st with
        | f :: st' => mach ks (f.app (.cons k.kind k.text .nil .nil) :: st')
        | [] => (71, .nil))
/-- A string as it is written. -/
def hexc (n : Nat) : UInt8 := if n < 10 then (48 + n).toUInt8 else (87 + n).toUInt8
def quo1 (c : UInt8) : List UInt8 := if c < 32 ∨ 126 < c ∨ c = 34 ∨ c = 92 then [92, hexc (c.toNat / 16), hexc (c.toNat % 16)] else [c]
def quo (l : List UInt8) : List UInt8 := [34] ++ l.flatMap quo1 ++ [34]
end Go.Proofs.YtjecdciabpjgcaaDoor.Lx
