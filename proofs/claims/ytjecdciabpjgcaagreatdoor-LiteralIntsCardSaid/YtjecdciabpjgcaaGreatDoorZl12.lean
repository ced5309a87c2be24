/-
  The walk of the reference's Int of chapter 8: it says what the program's Int says. Condition: the text is no longer than 1000000 bytes.
  What the document's examples of chapter 8 come to (plain, no program in sight). No condition.
  The walk of chapter 8's awake. Condition: the library's variable internal/bytealg.MaxLen holds a number, and strconv's and math/bits' tables are as their initialisers lay them.
  The walks of the laws LiteralInts and LiteralSigns, for any arguments. Condition: the library's variable internal/bytealg.MaxLen holds a number, and strconv's and math/bits' tables are as their initialisers lay them.
-/
import Derived.Test.YtjecdciabpjgcaaGreatDoorZl0
import Derived.Test.YtjecdciabpjgcaaGreatDoorZl1
import Derived.Test.YtjecdciabpjgcaaGreatDoorZl2
import Derived.Test.YtjecdciabpjgcaaGreatDoorZl3
import Derived.Test.YtjecdciabpjgcaaGreatDoorZl4
import Derived.Test.YtjecdciabpjgcaaGreatDoorZl5
import Derived.Test.YtjecdciabpjgcaaGreatDoorZl6
import Derived.Test.YtjecdciabpjgcaaGreatDoorZl7
import Derived.Test.YtjecdciabpjgcaaGreatDoorZl8
import Derived.Test.YtjecdciabpjgcaaGreatDoorZl9
import Derived.Test.YtjecdciabpjgcaaGreatDoorZl10
import Derived.Test.YtjecdciabpjgcaaGreatDoorZl11
namespace Go.Proofs.YtjecdciabpjgcaaGreatDoor.Lz
set_option linter.unusedVariables false
set_option linter.unusedSimpArgs false
open Go.RowKit Go.Proofs.YtjecdciabpjgcaaGreatDoorW.PrintWords Go.Proofs.YtjecdciabpjgcaaGreatDoor.Lx Go.Proofs.YtjecdciabpjgcaaGreatDoor.PLz
theorem ext_from (s : ByteArray) (i : Nat) : s.extract i s.size = ⟨(s.data.toList.drop i).toArray⟩ := by
  rw [Lib.extract_eq, List.take_of_length_le (by rw [List.length_drop, len_data]; omega)]
theorem bt_nat (s : ByteArray) (i : Nat) (h : i < s.size) : bt s (i : Int) = (s[i].toNat : Int) := by
  unfold bt
  rw [dif_pos (by simpa using h)]
  rfl
theorem refSigned (s : ByteArray) (neg : Bool) (r : List UInt8) (h : signF s.data.toList = (neg, r)) : bodkinref08_signed.f 1 s = some (neg, ⟨r.toArray⟩) := by
  have hself : (⟨s.data.toList.toArray⟩ : ByteArray) = s := Lib.mk_data s
  unfold bodkinref08_signed.f
  simp only [bodkinref08_signed.j0]
  rcases Nat.eq_zero_or_pos s.size with h0 | h0
  · have hl : s.data.toList = [] := List.eq_nil_of_length_eq_zero (by rw [len_data]; exact h0)
    rw [if_neg (by omega)]
    rw [if_neg Bool.false_ne_true, if_neg (by omega)]
    have e : signF [] = (false, []) := rfl
    rw [hl] at hself h
    rw [h] at e
    obtain ⟨rfl, rfl⟩ := Prod.mk.inj e
    rw [hself]
  · have hl : s.data.toList = s[0] :: s.data.toList.drop 1 := by have := drop_at s 0 h0; rwa [List.drop_zero] at this
    have hb : bt s 0 = (s[0].toNat : Int) := bt_nat s 0 h0
    rw [if_pos (by omega), if_pos (by omega), hb]
    by_cases h45 : s[0] = 45
    · rw [hl, h45, sign_minus] at h
      obtain ⟨rfl, rfl⟩ := Prod.mk.inj h
      rw [if_pos (by rw [h45]; rfl), if_pos (by omega), ext_from]
    · have q45 := byte_ne s[0] 45 h45
      rw [show (((45 : UInt8).toNat : Nat) : Int) = 45 from rfl] at q45
      rw [q45, if_neg Bool.false_ne_true, if_pos (by omega), if_pos (by omega)]
      by_cases h43 : s[0] = 43
      · rw [hl, h43, sign_plus] at h
        obtain ⟨rfl, rfl⟩ := Prod.mk.inj h
        rw [if_pos (by rw [h43]; rfl), if_pos (by omega), ext_from]
      · rw [hl, sign_none _ _ h43 h45, ← hl] at h
        obtain ⟨rfl, rfl⟩ := Prod.mk.inj h
        have q43 : ¬ (s[0].toNat : Int) = 43 := fun e => h43 (UInt8.toNat_inj.1 (by have e2 : (43 : UInt8).toNat = 43 := rfl; omega))
        rw [if_neg q43, hself]
theorem refHexed (s : ByteArray) (hex : Bool) (r : List UInt8) (h : hexF s.data.toList = (hex, r)) : bodkinref08_hexed.f s = some (hex, ⟨r.toArray⟩) := by
  have hself : (⟨s.data.toList.toArray⟩ : ByteArray) = s := Lib.mk_data s
  have hp := Lib.hasPrefix_of_take s.data.toList [48, 120]
  have hln := len_data s
  unfold hexF Lib.trimPrefix at h
  unfold bodkinref08_hexed.f
  have hx : (s.extract 0 2).toList = s.data.toList.take 2 := by rw [Lib.extract_toList, List.drop_zero]
  rw [hx]
  by_cases h1 : 2 ≤ s.size
  · rw [if_pos (by omega), if_pos (by decide), if_pos (by omega)]
    by_cases ht : s.data.toList.take 2 = [48, 120]
    · have : Lib.hasPrefix s.data.toList [48, 120] = true := by
        rw [← hp]
        simp only [List.length_cons, List.length_nil, Nat.zero_add, Nat.reduceAdd, ht, Bool.and_eq_true, decide_eq_true_eq]
        exact ⟨by omega, by decide⟩
      rw [this, if_pos rfl] at h
      obtain ⟨rfl, rfl⟩ := Prod.mk.inj h
      rw [if_pos ht, ext_from]
      rfl
    · have : Lib.hasPrefix s.data.toList [48, 120] = false := by
        rw [← hp]
        have : (s.data.toList.take [(48 : UInt8), 120].length == [48, 120]) = false := by simpa using ht
        rw [this, Bool.and_false]
      rw [this, if_neg Bool.false_ne_true] at h
      obtain ⟨rfl, rfl⟩ := Prod.mk.inj h
      rw [if_neg ht, hself]
  · have : Lib.hasPrefix s.data.toList [48, 120] = false := by
      rw [← hp]
      have : decide ([(48 : UInt8), 120].length ≤ s.data.toList.length) = false := decide_eq_false (by simp only [List.length_cons, List.length_nil]; omega)
      rw [this, Bool.false_and]
    rw [this, if_neg Bool.false_ne_true] at h
    obtain ⟨rfl, rfl⟩ := Prod.mk.inj h
    rw [if_neg (by omega), hself]
def numR (o : Option Nat) : Int × Bool := match o with | none => (0, false) | some m => ((m : Int), true)
theorem num_step (b n d : Nat) (hb : 0 < b) (hd : d < 16) (h : ¬ (18446744073709551615 - d) / b < n) : n * b + d < 18446744073709551616 := by
  have h1 : n ≤ (18446744073709551615 - d) / b := by omega
  have h2 := (Nat.le_div_iff_mul_le hb).1 h1
  omega
theorem refNum_l (s : ByteArray) (b : Nat) (hb : b = 10 ∨ b = 16) (hs : s.size ≤ 1000000) : ∀ (d i n k : Nat), i + d = s.size → d + 3 ≤ k → n < 18446744073709551616 → (∀ c ∈ s.data.toList.drop i, ishex c = true) →
    bodkinref08_number.l0 k s (b : Int) (n : Int) (i : Int) = some (numR (numK b (s.data.toList.drop i) n)) := by
  intro d
  induction d with
  | zero =>
    intro i n k hi hk hn hall
    obtain ⟨k, rfl⟩ : ∃ j, k = j + 1 := ⟨k - 1, by omega⟩
    unfold bodkinref08_number.l0
    rw [if_neg (by omega), Lx.drop_end s i (by omega)]
    rfl
  | succ d ih =>
    intro i n k hi hk hn hall
    obtain ⟨k, rfl⟩ : ∃ j, k = j + 1 := ⟨k - 1, by omega⟩
    have hlt : i < s.size := by omega
    have hdr := drop_at s i hlt
    rw [hdr] at hall ⊢
    have hc := hall s[i] (by simp)
    have hdv : dval s[i] < 16 := by
      have h2 : ∀ n : Fin 256, ishex n.val.toUInt8 = true → dval n.val.toUInt8 < 16 := by decide +kernel
      have h3 := h2 ⟨s[i].toNat, s[i].toNat_lt⟩
      simp at h3
      exact h3 hc
    unfold bodkinref08_number.l0
    rw [if_pos (by omega), if_pos (by omega), bt_nat s i hlt, dig_f k (by omega) s[i] true, digV_pos (show isdig true s[i] = true from hc)]
    simp only [Option.bind_some]
    have w1 : IntKind.u64.wrap (dval s[i] : Int) = (dval s[i] : Int) := by rw [IntKind.wrap_u64]; omega
    have w2 : IntKind.u64.wrap (18446744073709551615 - (dval s[i] : Int)) = ((18446744073709551615 - dval s[i] : Nat) : Int) := by rw [IntKind.wrap_u64]; omega
    have w3 : IntKind.u64.wrap (Int.tdiv ((18446744073709551615 - dval s[i] : Nat) : Int) (b : Int)) = (((18446744073709551615 - dval s[i]) / b : Nat) : Int) := by
      have h1 : (18446744073709551615 - dval s[i]) / b ≤ 18446744073709551615 - dval s[i] := Nat.div_le_self _ _
      rw [← Int.ofNat_tdiv, IntKind.wrap_u64]
      generalize (18446744073709551615 - dval s[i]) / b = q at *
      omega
    rw [w1, w2, w3, if_neg (by rcases hb with rfl | rfl <;> decide)]
    unfold numK
    by_cases hg : (18446744073709551615 - dval s[i]) / b < n
    · rw [if_pos (by omega), if_pos hg]
      rfl
    · have hst := num_step b n _ (by rcases hb with rfl | rfl <;> decide) hdv hg
      rw [if_neg (by omega), if_neg hg]
      have hnb : n * b ≤ n * b + dval s[i] := Nat.le_add_right _ _
      have w4 : IntKind.u64.wrap ((n : Int) * (b : Int)) = ((n * b : Nat) : Int) := by
        rw [← Int.natCast_mul, IntKind.wrap_u64]; omega
      have w5 : IntKind.u64.wrap (((n * b : Nat) : Int) + (dval s[i] : Int)) = ((n * b + dval s[i] : Nat) : Int) := by
        rw [IntKind.wrap_u64]; omega
      have w6 : wrap64 ((i : Int) + 1) = ((i + 1 : Nat) : Int) := by unfold wrap64; omega
      rw [w4, w5, w6]
      exact ih (i + 1) (n * b + dval s[i]) k (by omega) (by omega) hst (fun c hc => hall c (by simp [hc]))
theorem refNum_c (l : List UInt8) (b : Nat) (hb : b = 10 ∨ b = 16) (hl : l.length ≤ 1000000) (hall : ∀ c ∈ l, ishex c = true) (r : Int × Bool) (h : numR (numK b l 0) = r) (w : World) :
    Calls Tryz.prog 30 #[.string ⟨l.toArray⟩, .int .u64 (b : Int)] w fun e w' => e = .returned (.tuple #[.int .u64 r.1, .bool r.2]) ∧ Drawn0 w w' :=
  bodkinref08_number.calls (l.length + 3) ⟨l.toArray⟩ (b : Int) r.1 r.2 w (by
    have := refNum_l ⟨l.toArray⟩ b hb (by rw [size_arr]; exact hl) l.length 0 0 (l.length + 3) (by rw [size_arr]; omega) (Nat.le_refl _) (by decide) (by rw [List.drop_zero, arr_self]; exact hall)
    rw [List.drop_zero, arr_self, h] at this
    exact this)
/-- The reference's cutting: what is left by 2^n. -/
theorem refCut_l (n : Nat) (hn : n ≤ 32) (a : Nat) : ∀ (d i k : Nat), i + d = n → d + 1 ≤ k → bodkinref02_Cut.l0 k (n : Int) (a : Int) ((2 ^ i : Nat) : Int) (i : Int) = some ((a % 2 ^ n : Nat) : Int) := by
  intro d
  induction d with
  | zero =>
    intro i k hi hk
    obtain ⟨k, rfl⟩ : ∃ j, k = j + 1 := ⟨k - 1, by omega⟩
    unfold bodkinref02_Cut.l0
    have : 0 < 2 ^ i := Nat.two_pow_pos _
    have hin : i = n := by omega
    rw [if_neg (by omega), if_neg (by omega), hin, ← Int.ofNat_tmod]
  | succ d ih =>
    intro i k hi hk
    obtain ⟨k, rfl⟩ : ∃ j, k = j + 1 := ⟨k - 1, by omega⟩
    unfold bodkinref02_Cut.l0
    have hp : 2 ^ i ≤ 2 ^ 32 := Nat.pow_le_pow_right (by decide) (by omega)
    have e32 : (2 : Nat) ^ 32 = 4294967296 := by decide
    have w1 : IntKind.u64.wrap (((2 ^ i : Nat) : Int) * 2) = ((2 ^ (i + 1) : Nat) : Int) := by rw [Nat.pow_succ, IntKind.wrap_u64]; omega
    have w2 : wrap64 ((i : Int) + 1) = ((i + 1 : Nat) : Int) := by unfold wrap64; omega
    rw [if_pos (by omega), w1, w2]
    exact ih (i + 1) k (by omega) (by omega)
theorem refCut (n : Nat) (hn : n = 8 ∨ n = 16 ∨ n = 32 ∨ n = 64) (a : Nat) (ha : a < 18446744073709551616) (k : Nat) (hk : 40 ≤ k) : bodkinref02_Cut.f k (n : Int) (a : Int) = some ((a % 2 ^ n : Nat) : Int) := by
  unfold bodkinref02_Cut.f
  by_cases h : n = 64
  · subst h
    rw [if_pos (by rfl), show (2 : Nat) ^ 64 = 18446744073709551616 from by decide, Nat.mod_eq_of_lt ha]
  · rw [if_neg (by omega)]
    have := refCut_l n (by omega) a n 0 k (by omega) (by omega)
    rw [Nat.pow_zero] at this
    exact this
theorem refCut_c (n : Nat) (hn : n = 8 ∨ n = 16 ∨ n = 32 ∨ n = 64) (a : Nat) (ha : a < 18446744073709551616) (w : World) :
    Calls Tryz.prog 31 #[.int .i64 (n : Int), .int .u64 (a : Int)] w fun e w' => e = .returned (.int .u64 ((a % 2 ^ n : Nat) : Int)) ∧ Drawn0 w w' :=
  bodkinref02_Cut.calls 40 _ _ _ w (refCut n hn a ha 40 (Nat.le_refl _))
theorem refRight_c (n : Int) (r : Bool) (h : right n = r) (w : World) : Calls Tryz.prog 26 #[.int .i64 n] w fun e w' => e = .returned (.bool r) ∧ Drawn0 w w' :=
  bodkinref02_Right.calls n r w (by
    unfold bodkinref02_Right.f
    rw [← h]
    unfold right
    by_cases h1 : n = 8
    · rw [if_pos h1, h1]; rfl
    · rw [if_neg h1]
      by_cases h2 : n = 16
      · rw [if_pos h2, h2]; rfl
      · rw [if_neg h2]
        by_cases h3 : n = 32
        · rw [if_pos h3, h3]; rfl
        · rw [if_neg h3]
          have q1 : (n == 8) = false := by simpa using h1
          have q2 : (n == 16) = false := by simpa using h2
          have q3 : (n == 32) = false := by simpa using h3
          rw [q1, q2, q3]
          rfl)
theorem refSigned_c (s : ByteArray) (neg : Bool) (r : List UInt8) (h : signF s.data.toList = (neg, r)) (w : World) : Calls Tryz.prog 27 #[.string s] w fun e w' => e = .returned (.tuple #[.bool neg, .string ⟨r.toArray⟩]) ∧ Drawn0 w w' :=
  bodkinref08_signed.calls 1 s neg ⟨r.toArray⟩ w (refSigned s neg r h)
theorem refHexed_c (l : List UInt8) (hex : Bool) (r : List UInt8) (h : hexF l = (hex, r)) (w : World) : Calls Tryz.prog 28 #[.string ⟨l.toArray⟩] w fun e w' => e = .returned (.tuple #[.bool hex, .string ⟨r.toArray⟩]) ∧ Drawn0 w w' :=
  bodkinref08_hexed.calls ⟨l.toArray⟩ hex ⟨r.toArray⟩ w (refHexed ⟨l.toArray⟩ hex r (by rw [arr_self]; exact h))
theorem refRow_c (l : List UInt8) (hex : Bool) (hl : l.length ≤ 1000000) (o r : List UInt8) (h : rrow hex false l = (o, r)) (w : World) :
    Calls Tryz.prog 29 #[.string ⟨l.toArray⟩, .bool hex] w fun e w' => e = .returned (.tuple #[.string ⟨o.toArray⟩, .string ⟨r.toArray⟩, .bool (!o.isEmpty)]) ∧ Below w.heap.size w w' :=
  (rrow_c ⟨l.toArray⟩ hex (by rw [size_arr]; exact hl) w (o, r) (by rw [arr_self]; exact h)).mono fun e w' hq => hq.out
theorem str_ne (r : List UInt8) : ((⟨r.toArray⟩ : ByteArray).toList == []) = r.isEmpty := by
  rw [Go.ByteArray.toList_eq, arr_self]
  cases r <;> rfl
theorem numK_lt (b : Nat) (hb : 0 < b) (hb2 : b ≤ 16) : ∀ (l : List UInt8), (∀ c ∈ l, ishex c = true) → ∀ (n m : Nat), n < 18446744073709551616 → numK b l n = some m → m < 18446744073709551616
  | [], _, n, m, hn, h => by
    have : n = m := Option.some.inj h
    omega
  | c :: l, hall, n, m, hn, h => by
    unfold numK at h
    by_cases hg : (18446744073709551615 - dval c) / b < n
    · rw [if_pos hg] at h; cases h
    · rw [if_neg hg] at h
      have hc := hall c (by simp)
      have hdv : dval c < 16 := by
        have h2 : ∀ n : Fin 256, ishex n.val.toUInt8 = true → dval n.val.toUInt8 < 16 := by decide +kernel
        have h3 := h2 ⟨c.toNat, c.toNat_lt⟩
        simp at h3
        exact h3 hc
      exact numK_lt b hb hb2 l (fun x hx => hall x (by simp [hx])) _ m (num_step b n _ hb hdv hg) h
theorem cut_neg (k n : Nat) (hk : k = 8 ∨ k = 16 ∨ k = 32 ∨ k = 64) (hn : n ≤ 2 ^ k - 1) : (18446744073709551616 - n) % 18446744073709551616 % 2 ^ k = (2 ^ k - 1 + 1 - n) % (2 ^ k - 1 + 1) := by
  rcases hk with rfl | rfl | rfl | rfl
  · have e : (2 : Nat) ^ 8 = 256 := by decide
    rw [e] at hn ⊢; omega
  · have e : (2 : Nat) ^ 16 = 65536 := by decide
    rw [e] at hn ⊢; omega
  · have e : (2 : Nat) ^ 32 = 4294967296 := by decide
    rw [e] at hn ⊢; omega
  · have e : (2 : Nat) ^ 64 = 18446744073709551616 := by decide
    rw [e] at hn ⊢; omega
set_option maxRecDepth 1000000 in
set_option maxHeartbeats 8000000 in
theorem refInt_c (bits : Int) (s : ByteArray) (hs : s.size ≤ 1000000) (w : World) (R : Nat × Bool) (hR : intF bits s.data.toList = R) : Calls Tryz.prog 11 #[.int .i64 bits, .string s] w (IntQ w R) := by
  obtain ⟨⟨neg, l1⟩, hsg⟩ : ∃ x, signF s.data.toList = x := ⟨_, rfl⟩
  obtain ⟨⟨hex, l2⟩, hhx⟩ : ∃ x, hexF l1 = x := ⟨_, rfl⟩
  obtain ⟨⟨d, fine⟩, hrw⟩ : ∃ x, rowF l2 hex = x := ⟨_, rfl⟩
  obtain ⟨⟨o, rest⟩, hrr⟩ : ∃ x, rrow hex false l2 = x := ⟨_, rfl⟩
  obtain ⟨rs1, rs2⟩ := row_same l2 hex
  have hl1 : l1.length ≤ s.size := by have := signF_len s.data.toList; rw [hsg, len_data] at this; exact this
  have hl2 : l2.length ≤ l1.length := by have := trim_len l1 [48, 120]; unfold hexF at hhx; rw [(Prod.mk.inj hhx).2] at this; exact this
  rw [hrw, hrr] at rs1 rs2
  simp only at rs1 rs2
  have HSG := Lib.hid (fun w => refSigned_c s neg l1 hsg w)
  have HHX := Lib.hid (fun w => refHexed_c l1 hex l2 hhx w)
  have HRW := Lib.hid (fun w => refRow_c l2 hex (by omega) o rest hrr w)
  obtain ⟨rt, hrt⟩ : ∃ b, right bits = b := ⟨_, rfl⟩
  have HRI := Lib.hid (fun w => refRight_c bits rt hrt w)
  have hdx := rowF_hex l2 hex
  have hdl := rowF_len l2 hex
  rw [hrw] at hdx hdl
  simp only at hdx hdl
  unfold intF at hR
  simp only [hsg, hhx, hrw, hrt] at hR
  have ho := str_ne rest
  by_cases hbad : rt = true ∧ fine = true
  · obtain ⟨rfl, rfl⟩ := hbad
    obtain ⟨r1, r2⟩ := rs1 rfl
    obtain ⟨rfl, rfl⟩ := Prod.mk.inj r1
    have hob : o.isEmpty = false := by cases o with | nil => exact absurd rfl r2 | cons a t => rfl
    rw [if_pos ⟨rfl, rfl⟩] at hR
    obtain ⟨k, hk, rfl⟩ : ∃ k : Nat, (k = 8 ∨ k = 16 ∨ k = 32 ∨ k = 64) ∧ bits = (k : Int) := by
      unfold right at hrt
      simp only [Bool.or_eq_true, beq_iff_eq] at hrt
      exact ⟨bits.toNat, by omega, by omega⟩
    have hms : most (k : Int) = 2 ^ k - 1 := by unfold most; rw [Int.toNat_natCast]
    have hpw : 2 ^ k ≤ 18446744073709551616 ∧ 1 ≤ 2 ^ k := by rcases hk with rfl | rfl | rfl | rfl <;> decide
    have hall : (18446744073709551615 % 2 ^ k : Nat) = 2 ^ k - 1 := by rcases hk with rfl | rfl | rfl | rfl <;> decide
    have HC1 := Lib.hid (fun w => refCut_c k hk 18446744073709551615 (by decide) w)
    rw [hall] at HC1
    have e1 : ((18446744073709551615 : Nat) : Int) = 18446744073709551615 := rfl
    rw [e1] at HC1
    rw [hms] at hR
    have hdxx := hdx
    have HN2 := Lib.hid (fun (b : Nat) (hb : b = 10 ∨ b = 16) w => refNum_c o b hb (by omega) hdx _ rfl w)
    have HCN := Lib.hid (fun n => cut_neg k n hk)
    have HC2' := Lib.hid (fun (a : Nat) ha w => refCut_c k hk a ha w)
    obtain ⟨A, hA⟩ : ∃ A, 2 ^ k - 1 = A := ⟨_, rfl⟩
    rw [hA] at hR HC1 HCN
    have hAl : A < 18446744073709551616 := by omega
    have hob2 : (!o.isEmpty) = true := by rw [hob]; rfl
    rw [hob2] at HRW
    have hob3 : ((⟨([] : List UInt8).toArray⟩ : ByteArray).toList == []) = true := str_ne []
    clear hsg hhx hrw hrr rs1 rs2 hrt hall hms e1 hdx r1 r2 hob hob2 hpw hA ho hl1 hl2 hdl
    have key : ∀ q : Option Nat, numK (if hex = true then 16 else 10) o 0 = q → (∀ n, q = some n → n < 18446744073709551616) → Calls Tryz.prog 11 #[.int .i64 (k : Int), .string s] w (IntQ w R) := by
      intro q hq hqn
      rw [hq] at hR
      have HN := Lib.hid (fun w => HN2.out (if hex = true then 16 else 10) (by cases hex <;> simp) w)
      rw [hq] at HN
      cases q with
      | none =>
        have HRR := Lib.hid hR
        have HNx : Hid (numR none = (0, false)) := Lib.hid rfl
        rw [HNx.out] at HN
        clear hR hq hqn hAl HCN HC2' HN2 hk
        cases hex
        · rw [if_neg Bool.false_ne_true] at HN
          go_enter Tryz.func11, Tryz.ntmps11
          go_wp2_with (first | (go_at_call 26; refine (HRI.out _).mono ?_; rintro e w1 ⟨rfl, hd⟩; have HB1 := Lib.hid hd.below; clear hd) | (go_at_call 27; refine (HSG.out _).mono ?_; rintro e w2 ⟨rfl, hd⟩; have HB2 := Lib.hid (below_step HB1.out hd.below); clear hd) | (go_at_call 28; refine (HHX.out _).mono ?_; rintro e w3 ⟨rfl, hd⟩; have HB3 := Lib.hid (below_step HB2.out hd.below); clear hd) | (go_at_call 29; refine (HRW.out _).mono ?_; rintro e w4 ⟨rfl, hb⟩; have HB4 := Lib.hid (below_step HB3.out hb); clear hb) | (go_at_call 30; refine (HN.out _).mono ?_; rintro e w5 ⟨rfl, hd⟩; have HB5 := Lib.hid (below_step HB4.out hd.below); clear hd) | (go_at_call 31; ((with_reducible refine (HC1.out _).mono ?_)); rintro e w6 ⟨rfl, hd⟩; have HB6 := Lib.hid (below_step HB5.out hd.below); clear hd))
          go_ret2
          exact IntQ.of HRR.out HB6.out
        · rw [if_pos rfl] at HN
          go_enter Tryz.func11, Tryz.ntmps11
          go_wp2_with (first | (go_at_call 26; refine (HRI.out _).mono ?_; rintro e w1 ⟨rfl, hd⟩; have HB1 := Lib.hid hd.below; clear hd) | (go_at_call 27; refine (HSG.out _).mono ?_; rintro e w2 ⟨rfl, hd⟩; have HB2 := Lib.hid (below_step HB1.out hd.below); clear hd) | (go_at_call 28; refine (HHX.out _).mono ?_; rintro e w3 ⟨rfl, hd⟩; have HB3 := Lib.hid (below_step HB2.out hd.below); clear hd) | (go_at_call 29; refine (HRW.out _).mono ?_; rintro e w4 ⟨rfl, hb⟩; have HB4 := Lib.hid (below_step HB3.out hb); clear hb) | (go_at_call 30; refine (HN.out _).mono ?_; rintro e w5 ⟨rfl, hd⟩; have HB5 := Lib.hid (below_step HB4.out hd.below); clear hd) | (go_at_call 31; ((with_reducible refine (HC1.out _).mono ?_)); rintro e w6 ⟨rfl, hd⟩; have HB6 := Lib.hid (below_step HB5.out hd.below); clear hd))
          go_ret2
          exact IntQ.of HRR.out HB6.out
      | some n =>
        have hn := hqn n rfl
        have HNx : Hid (numR (some n) = ((n : Int), true)) := Lib.hid rfl
        rw [HNx.out] at HN
        simp only at hR
        clear hq hqn HN2 HNx
        by_cases c1 : A < n
        · rw [if_pos (.inr c1)] at hR
          have c1I : (A : Int) < (n : Int) := by omega
          have HRR := Lib.hid hR
          clear hR HCN HC2' hk c1
          cases hex
          · rw [if_neg Bool.false_ne_true] at HN
            go_enter Tryz.func11, Tryz.ntmps11
            go_wp2_with (first | (go_at_call 26; refine (HRI.out _).mono ?_; rintro e w1 ⟨rfl, hd⟩; have HB1 := Lib.hid hd.below; clear hd) | (go_at_call 27; refine (HSG.out _).mono ?_; rintro e w2 ⟨rfl, hd⟩; have HB2 := Lib.hid (below_step HB1.out hd.below); clear hd) | (go_at_call 28; refine (HHX.out _).mono ?_; rintro e w3 ⟨rfl, hd⟩; have HB3 := Lib.hid (below_step HB2.out hd.below); clear hd) | (go_at_call 29; refine (HRW.out _).mono ?_; rintro e w4 ⟨rfl, hb⟩; have HB4 := Lib.hid (below_step HB3.out hb); clear hb) | (go_at_call 30; refine (HN.out _).mono ?_; rintro e w5 ⟨rfl, hd⟩; have HB5 := Lib.hid (below_step HB4.out hd.below); clear hd) | (go_at_call 31; ((with_reducible refine (HC1.out _).mono ?_)); rintro e w6 ⟨rfl, hd⟩; have HB6 := Lib.hid (below_step HB5.out hd.below); clear hd))
            go_ret2
            exact IntQ.of HRR.out HB6.out
          · rw [if_pos rfl] at HN
            go_enter Tryz.func11, Tryz.ntmps11
            go_wp2_with (first | (go_at_call 26; refine (HRI.out _).mono ?_; rintro e w1 ⟨rfl, hd⟩; have HB1 := Lib.hid hd.below; clear hd) | (go_at_call 27; refine (HSG.out _).mono ?_; rintro e w2 ⟨rfl, hd⟩; have HB2 := Lib.hid (below_step HB1.out hd.below); clear hd) | (go_at_call 28; refine (HHX.out _).mono ?_; rintro e w3 ⟨rfl, hd⟩; have HB3 := Lib.hid (below_step HB2.out hd.below); clear hd) | (go_at_call 29; refine (HRW.out _).mono ?_; rintro e w4 ⟨rfl, hb⟩; have HB4 := Lib.hid (below_step HB3.out hb); clear hb) | (go_at_call 30; refine (HN.out _).mono ?_; rintro e w5 ⟨rfl, hd⟩; have HB5 := Lib.hid (below_step HB4.out hd.below); clear hd) | (go_at_call 31; ((with_reducible refine (HC1.out _).mono ?_)); rintro e w6 ⟨rfl, hd⟩; have HB6 := Lib.hid (below_step HB5.out hd.below); clear hd))
            go_ret2
            exact IntQ.of HRR.out HB6.out
        · have c1I : (n : Int) ≤ (A : Int) := by omega
          cases neg
          · rw [if_neg (fun h => by rcases h with h | h; exact absurd h.1 Bool.false_ne_true; exact c1 h), if_neg Bool.false_ne_true] at hR
            have HRR := Lib.hid hR
            clear hR HCN HC2' hk c1
            cases hex
            · rw [if_neg Bool.false_ne_true] at HN
              go_enter Tryz.func11, Tryz.ntmps11
              go_wp2_with (first | (go_at_call 26; refine (HRI.out _).mono ?_; rintro e w1 ⟨rfl, hd⟩; have HB1 := Lib.hid hd.below; clear hd) | (go_at_call 27; refine (HSG.out _).mono ?_; rintro e w2 ⟨rfl, hd⟩; have HB2 := Lib.hid (below_step HB1.out hd.below); clear hd) | (go_at_call 28; refine (HHX.out _).mono ?_; rintro e w3 ⟨rfl, hd⟩; have HB3 := Lib.hid (below_step HB2.out hd.below); clear hd) | (go_at_call 29; refine (HRW.out _).mono ?_; rintro e w4 ⟨rfl, hb⟩; have HB4 := Lib.hid (below_step HB3.out hb); clear hb) | (go_at_call 30; refine (HN.out _).mono ?_; rintro e w5 ⟨rfl, hd⟩; have HB5 := Lib.hid (below_step HB4.out hd.below); clear hd) | (go_at_call 31; ((with_reducible refine (HC1.out _).mono ?_)); rintro e w6 ⟨rfl, hd⟩; have HB6 := Lib.hid (below_step HB5.out hd.below); clear hd))
              go_ret2
              exact IntQ.of HRR.out HB6.out
            · rw [if_pos rfl] at HN
              go_enter Tryz.func11, Tryz.ntmps11
              go_wp2_with (first | (go_at_call 26; refine (HRI.out _).mono ?_; rintro e w1 ⟨rfl, hd⟩; have HB1 := Lib.hid hd.below; clear hd) | (go_at_call 27; refine (HSG.out _).mono ?_; rintro e w2 ⟨rfl, hd⟩; have HB2 := Lib.hid (below_step HB1.out hd.below); clear hd) | (go_at_call 28; refine (HHX.out _).mono ?_; rintro e w3 ⟨rfl, hd⟩; have HB3 := Lib.hid (below_step HB2.out hd.below); clear hd) | (go_at_call 29; refine (HRW.out _).mono ?_; rintro e w4 ⟨rfl, hb⟩; have HB4 := Lib.hid (below_step HB3.out hb); clear hb) | (go_at_call 30; refine (HN.out _).mono ?_; rintro e w5 ⟨rfl, hd⟩; have HB5 := Lib.hid (below_step HB4.out hd.below); clear hd) | (go_at_call 31; ((with_reducible refine (HC1.out _).mono ?_)); rintro e w6 ⟨rfl, hd⟩; have HB6 := Lib.hid (below_step HB5.out hd.below); clear hd))
              go_ret2
              exact IntQ.of HRR.out HB6.out
          · by_cases c2 : A / 2 + 1 < n
            · rw [if_pos (.inl ⟨rfl, c2⟩)] at hR
              have c2I : (A : Int) / 2 + 1 < (n : Int) := by omega
              have HRR := Lib.hid hR
              clear hR HCN HC2' hk c1 c2
              cases hex
              · rw [if_neg Bool.false_ne_true] at HN
                go_enter Tryz.func11, Tryz.ntmps11
                go_wp2_with (first | (go_at_call 26; refine (HRI.out _).mono ?_; rintro e w1 ⟨rfl, hd⟩; have HB1 := Lib.hid hd.below; clear hd) | (go_at_call 27; refine (HSG.out _).mono ?_; rintro e w2 ⟨rfl, hd⟩; have HB2 := Lib.hid (below_step HB1.out hd.below); clear hd) | (go_at_call 28; refine (HHX.out _).mono ?_; rintro e w3 ⟨rfl, hd⟩; have HB3 := Lib.hid (below_step HB2.out hd.below); clear hd) | (go_at_call 29; refine (HRW.out _).mono ?_; rintro e w4 ⟨rfl, hb⟩; have HB4 := Lib.hid (below_step HB3.out hb); clear hb) | (go_at_call 30; refine (HN.out _).mono ?_; rintro e w5 ⟨rfl, hd⟩; have HB5 := Lib.hid (below_step HB4.out hd.below); clear hd) | (go_at_call 31; ((with_reducible refine (HC1.out _).mono ?_)); rintro e w6 ⟨rfl, hd⟩; have HB6 := Lib.hid (below_step HB5.out hd.below); clear hd))
                go_ret2
                exact IntQ.of HRR.out HB6.out
              · rw [if_pos rfl] at HN
                go_enter Tryz.func11, Tryz.ntmps11
                go_wp2_with (first | (go_at_call 26; refine (HRI.out _).mono ?_; rintro e w1 ⟨rfl, hd⟩; have HB1 := Lib.hid hd.below; clear hd) | (go_at_call 27; refine (HSG.out _).mono ?_; rintro e w2 ⟨rfl, hd⟩; have HB2 := Lib.hid (below_step HB1.out hd.below); clear hd) | (go_at_call 28; refine (HHX.out _).mono ?_; rintro e w3 ⟨rfl, hd⟩; have HB3 := Lib.hid (below_step HB2.out hd.below); clear hd) | (go_at_call 29; refine (HRW.out _).mono ?_; rintro e w4 ⟨rfl, hb⟩; have HB4 := Lib.hid (below_step HB3.out hb); clear hb) | (go_at_call 30; refine (HN.out _).mono ?_; rintro e w5 ⟨rfl, hd⟩; have HB5 := Lib.hid (below_step HB4.out hd.below); clear hd) | (go_at_call 31; ((with_reducible refine (HC1.out _).mono ?_)); rintro e w6 ⟨rfl, hd⟩; have HB6 := Lib.hid (below_step HB5.out hd.below); clear hd))
                go_ret2
                exact IntQ.of HRR.out HB6.out
            · have c2I : (n : Int) ≤ (A : Int) / 2 + 1 := by omega
              rw [if_neg (fun h => by rcases h with h | h; exact c2 h.2; exact c1 h), if_pos rfl] at hR
              obtain ⟨a, ha⟩ : ∃ a, (18446744073709551616 - n) % 18446744073709551616 = a := ⟨_, rfl⟩
              have hn1 : IntKind.u64.wrap (0 - (n : Int)) = (a : Int) := by rw [IntKind.wrap_u64]; omega
              have hn2 : IntKind.u64.wrap (-(n : Int)) = (a : Int) := by rw [IntKind.wrap_u64]; omega
              have hcn := HCN.out n (by omega)
              rw [ha] at hcn
              have HC2 := Lib.hid (fun w => HC2'.out a (by omega) w)
              rw [hcn] at HC2
              have HRR := Lib.hid hR
              clear hR HCN HC2' hk c1 c2 ha hcn
              cases hex
              · rw [if_neg Bool.false_ne_true] at HN
                go_enter Tryz.func11, Tryz.ntmps11
                go_wp2_with (first | (go_at_call 26; refine (HRI.out _).mono ?_; rintro e w1 ⟨rfl, hd⟩; have HB1 := Lib.hid hd.below; clear hd) | (go_at_call 27; refine (HSG.out _).mono ?_; rintro e w2 ⟨rfl, hd⟩; have HB2 := Lib.hid (below_step HB1.out hd.below); clear hd) | (go_at_call 28; refine (HHX.out _).mono ?_; rintro e w3 ⟨rfl, hd⟩; have HB3 := Lib.hid (below_step HB2.out hd.below); clear hd) | (go_at_call 29; refine (HRW.out _).mono ?_; rintro e w4 ⟨rfl, hb⟩; have HB4 := Lib.hid (below_step HB3.out hb); clear hb) | (go_at_call 30; refine (HN.out _).mono ?_; rintro e w5 ⟨rfl, hd⟩; have HB5 := Lib.hid (below_step HB4.out hd.below); clear hd) | (go_at_call 31; ((with_reducible refine (HC1.out _).mono ?_)); rintro e w6 ⟨rfl, hd⟩; have HB6 := Lib.hid (below_step HB5.out hd.below); clear hd) | (go_at_call 31; ((with_reducible refine (HC2.out _).mono ?_)); rintro e w7 ⟨rfl, hd⟩; have HB7 := Lib.hid (below_step HB6.out hd.below); clear hd))
                go_ret2
                exact IntQ.of HRR.out HB7.out
              · rw [if_pos rfl] at HN
                go_enter Tryz.func11, Tryz.ntmps11
                go_wp2_with (first | (go_at_call 26; refine (HRI.out _).mono ?_; rintro e w1 ⟨rfl, hd⟩; have HB1 := Lib.hid hd.below; clear hd) | (go_at_call 27; refine (HSG.out _).mono ?_; rintro e w2 ⟨rfl, hd⟩; have HB2 := Lib.hid (below_step HB1.out hd.below); clear hd) | (go_at_call 28; refine (HHX.out _).mono ?_; rintro e w3 ⟨rfl, hd⟩; have HB3 := Lib.hid (below_step HB2.out hd.below); clear hd) | (go_at_call 29; refine (HRW.out _).mono ?_; rintro e w4 ⟨rfl, hb⟩; have HB4 := Lib.hid (below_step HB3.out hb); clear hb) | (go_at_call 30; refine (HN.out _).mono ?_; rintro e w5 ⟨rfl, hd⟩; have HB5 := Lib.hid (below_step HB4.out hd.below); clear hd) | (go_at_call 31; ((with_reducible refine (HC1.out _).mono ?_)); rintro e w6 ⟨rfl, hd⟩; have HB6 := Lib.hid (below_step HB5.out hd.below); clear hd) | (go_at_call 31; ((with_reducible refine (HC2.out _).mono ?_)); rintro e w7 ⟨rfl, hd⟩; have HB7 := Lib.hid (below_step HB6.out hd.below); clear hd))
                go_ret2
                exact IntQ.of HRR.out HB7.out
    refine key _ rfl (fun n hn => ?_)
    exact numK_lt _ (by cases hex <;> simp) (by cases hex <;> simp) o hdxx 0 n (by decide) hn
  · rw [if_neg hbad] at hR
    have hcase : rt = false ∨ (rt = true ∧ o.isEmpty = true) ∨ (rt = true ∧ o.isEmpty = false ∧ rest.isEmpty = false) := by
      cases rt with
      | false => exact .inl rfl
      | true =>
        have hf : fine = false := by cases fine with | false => rfl | true => exact absurd ⟨rfl, rfl⟩ hbad
        have := rs2 hf
        cases ho1 : o.isEmpty with
        | true => exact .inr (.inl ⟨rfl, rfl⟩)
        | false =>
          refine .inr (.inr ⟨rfl, rfl, ?_⟩)
          cases hr1 : rest.isEmpty with
          | false => rfl
          | true =>
            exact absurd ⟨by simpa using hr1, by intro h; rw [h] at ho1; cases ho1⟩ this
    have HRR := Lib.hid hR
    clear hsg hhx hrw hrr rs1 rs2 hrt hR hdx hdl hbad hl1 hl2
    rcases hcase with rfl | ⟨rfl, h2⟩ | ⟨rfl, h2, h3⟩
    all_goals
      try rw [h2] at HRW
      try rw [h3] at ho
      go_enter Tryz.func11, Tryz.ntmps11
      go_wp2_with (first | (go_at_call 26; refine (HRI.out _).mono ?_; rintro e w1 ⟨rfl, hd⟩; have HB1 := Lib.hid hd.below; clear hd) | (go_at_call 27; refine (HSG.out _).mono ?_; rintro e w2 ⟨rfl, hd⟩; have HB2 := Lib.hid (below_step HB1.out hd.below); clear hd) | (go_at_call 28; refine (HHX.out _).mono ?_; rintro e w3 ⟨rfl, hd⟩; have HB3 := Lib.hid (below_step HB2.out hd.below); clear hd) | (go_at_call 29; refine (HRW.out _).mono ?_; rintro e w4 ⟨rfl, hb⟩; have HB4 := Lib.hid (below_step HB3.out hb); clear hb))
      go_ret2
      exact IntQ.of HRR.out HB4.out
end Go.Proofs.YtjecdciabpjgcaaGreatDoor.Lz
namespace Go.Proofs.YtjecdciabpjgcaaGreatDoor.Lz
set_option linter.unusedVariables false
set_option linter.unusedSimpArgs false
open Go.RowKit Go.Proofs.YtjecdciabpjgcaaGreatDoorW.PrintWords Go.Proofs.YtjecdciabpjgcaaGreatDoor.Lx Go.Proofs.YtjecdciabpjgcaaGreatDoor.PLz
theorem strip_pow (m : Nat) (hm : m % 2 = 1) : ∀ (j : Nat) (e : Int), strip (m * 2 ^ j) e = (m, e + (j : Int))
  | 0, e => by rw [Nat.pow_zero, Nat.mul_one, strip_odd m e hm]; simp
  | j + 1, e => by
    have hp : 0 < m * 2 ^ j := Nat.mul_pos (by omega) (Nat.two_pow_pos j)
    have e1 : m * 2 ^ (j + 1) = 2 * (m * 2 ^ j) := by rw [Nat.pow_succ, ← Nat.mul_assoc, Nat.mul_comm]
    rw [e1, strip_even _ e (by omega) (by omega), Nat.mul_div_cancel_left _ (by decide), strip_pow m hm j]
    congr 1
    omega
theorem ex_int1 : intF 8 [45, 49, 50, 56] = (128, true) := by decide +kernel
theorem ex_int2 : intF 8 [48, 120, 102, 102] = (255, true) := by decide +kernel
theorem ex_int3 : intF 8 [50, 53, 54] = (0, false) := by decide +kernel
theorem ex_float1 : floatF 32 [48, 120, 49, 46, 56, 112, 49] = (1077936128, true) := by decide +kernel
theorem ex_float2 : floatF 32 [49, 101, 51, 57] = (0, false) := by decide +kernel
theorem ex_show1 : showI 8 128 = [45, 49, 50, 56] := by
  have h1 : rightB 8 := by unfold rightB; omega
  have h2 : sgnB (8 : Int).toNat 128 = -128 := by decide
  unfold showI
  rw [if_pos h1, h2]
  unfold Lib.itoa
  rw [if_pos (by decide)]
  have e : (-128 : Int).natAbs = 128 := rfl
  rw [e, Lib.decDigits, dif_neg (by decide), Lib.decDigits, dif_neg (by decide), Lib.decDigits, dif_pos (by decide)]
  rfl
theorem ex_show2 : showF 64 4609434218613702656 = [48, 120, 51, 112, 45, 49] := by
  have hk : Fl.kindF 64 ((4609434218613702656 : Nat) : Int) = 2 := by decide +kernel
  have hs : signT (64 : Int).toNat 4609434218613702656 = [] := by decide +kernel
  have hp : plainV (64 : Int).toNat 4609434218613702656 = 4609434218613702656 := by decide +kernel
  have hq : Pure.partsF 64 4609434218613702656 = (false, ((3 * 2 ^ 51 : Nat) : Int), -52, 0) := by decide +kernel
  have hc : ¬ ((4609434218613702656 : Nat) : Int) = Fl.canon 64 := by decide
  unfold showF
  simp only [hk, hs, hp, hq]
  rw [if_neg (by decide), if_neg (by decide), if_neg (by decide), if_neg hc, if_neg (by decide), Int.toNat_natCast, strip_pow 3 (by decide) 51]
  simp only [List.nil_append]
  rw [hexT_lt 3 (by decide), show (-52 : Int) + ((51 : Nat) : Int) = -1 by omega]
  unfold Lib.itoa
  rw [if_pos (by decide), show (-1 : Int).natAbs = 1 from rfl, Lib.decDigits, dif_pos (by decide)]
  rfl
end Go.Proofs.YtjecdciabpjgcaaGreatDoor.Lz
namespace Go.Proofs.YtjecdciabpjgcaaGreatDoor.Lz
set_option linter.unusedVariables false
set_option linter.unusedSimpArgs false
open Go.RowKit Go.Proofs.YtjecdciabpjgcaaGreatDoorW.PrintWords Go.Proofs.YtjecdciabpjgcaaGreatDoor.Lx Go.Proofs.YtjecdciabpjgcaaGreatDoor.PLz
theorem int_at (bits : Int) (l : List UInt8) (hl : l.length ≤ 1000000) (r : Nat × Bool) (h : intF bits l = r) (w : World) (hm : ML w) :
    Calls Tryz.prog 10 #[.int .i64 bits, .string ⟨l.toArray⟩] w fun e w' => e = .returned (.tuple #[.int .u64 (r.1 : Int), .bool r.2]) ∧ Below w.heap.size w w' :=
  (int_c ⟨l.toArray⟩ bits (by rw [size_arr]; omega) w hm r (by rw [arr_self]; exact h)).mono fun e w' hq => hq.out
theorem float_at (bits : Int) (l : List UInt8) (hl : l.length ≤ 900000) (r : Int × Bool) (h : floatF bits l = r) (w : World) (hm : ML w) :
    Calls Tryz.prog 12 #[.int .i64 bits, .string ⟨l.toArray⟩] w fun e w' => e = .returned (.tuple #[.int .u64 r.1, .bool r.2]) ∧ Below w.heap.size w w' :=
  (float_c bits ⟨l.toArray⟩ (by rw [size_arr]; omega) w hm).mono fun e w' hq => by
    have := hq.out
    rw [arr_self, h] at this
    exact this
structure AwQ (w : World) (e : Ending) (w' : World) : Prop where mk ::
  (out : e = .returned (.bool true) ∧ Below w.heap.size w w')
set_option maxRecDepth 1000000 in
set_option maxHeartbeats 4000000 in
theorem awake_c (w : World) (ht : TW w) : Calls Tryz.prog 9 #[] w (AwQ w) := by
  have HT := Lib.hid ht
  have H1 := Lib.hid (fun w hm => int_at 8 _ (by decide) _ ex_int1 w hm)
  have H2 := Lib.hid (fun w hm => int_at 8 _ (by decide) _ ex_int2 w hm)
  have H3 := Lib.hid (fun w hm => int_at 8 _ (by decide) _ ex_int3 w hm)
  have H4 := Lib.hid (fun w hm => float_at 32 _ (by decide) _ ex_float1 w hm)
  have H5 := Lib.hid (fun w hm => float_at 32 _ (by decide) _ ex_float2 w hm)
  have H6 := Lib.hid (fun w ht => showInt_c 8 (by decide) 128 w ht)
  have H7 := Lib.hid (fun w ht => showFloat_c 64 4609434218613702656 (by decide) w ht)
  rw [ex_show1] at H6
  rw [ex_show2] at H7
  clear ht
  go_enter Tryz.func9, Tryz.ntmps9
  go_wp2_with (first | (go_at_call 10; ((with_reducible refine (H1.out _ HT.out.ml).mono ?_)); rintro e w1 ⟨rfl, hb⟩; have HB1 := Lib.hid hb; clear hb) | (go_at_call 10; ((with_reducible refine (H2.out _ (HT.out.ml.below HB1.out)).mono ?_)); rintro e w2 ⟨rfl, hb⟩; have HB2 := Lib.hid (below_step HB1.out hb); clear hb) | (go_at_call 10; ((with_reducible refine (H3.out _ (HT.out.ml.below HB2.out)).mono ?_)); rintro e w3 ⟨rfl, hb⟩; have HB3 := Lib.hid (below_step HB2.out hb); clear hb) | (go_at_call 12; ((with_reducible refine (H4.out _ (HT.out.ml.below HB3.out)).mono ?_)); rintro e w4 ⟨rfl, hb⟩; have HB4 := Lib.hid (below_step HB3.out hb); clear hb) | (go_at_call 12; ((with_reducible refine (H5.out _ (HT.out.ml.below HB4.out)).mono ?_)); rintro e w5 ⟨rfl, hb⟩; have HB5 := Lib.hid (below_step HB4.out hb); clear hb) | (go_at_call 13; refine (H6.out _ (HT.out.below HB5.out)).mono ?_; rintro e w6 ⟨rfl, hb⟩; have HB6 := Lib.hid (below_step HB5.out hb); clear hb) | (go_at_call 14; refine (H7.out _ (HT.out.below HB6.out)).mono ?_; rintro e w7 ⟨rfl, hb⟩; have HB7 := Lib.hid (below_step HB6.out hb); clear hb))
  go_ret
  exact ⟨rfl, HB7.out⟩
end Go.Proofs.YtjecdciabpjgcaaGreatDoor.Lz
namespace Go.Proofs.YtjecdciabpjgcaaGreatDoor.Lz
set_option linter.unusedVariables false
set_option linter.unusedSimpArgs false
open Go.RowKit Go.Proofs.YtjecdciabpjgcaaGreatDoorW.PrintWords Go.Proofs.YtjecdciabpjgcaaGreatDoor.Lx Go.Proofs.YtjecdciabpjgcaaGreatDoor.PLz
set_option maxRecDepth 1000000 in
set_option maxHeartbeats 4000000 in
theorem ints_row (bits : Int) (s : ByteArray) (w : World) (hb : (Lit.int .i64 bits).wf = true) (hs : s.size ≤ 140737488351232) (ht : TW w) :
    Calls Tryz.prog 3 #[.int .i64 bits, .string s] w fun e w' => e = .returned (.bool true) ∧ Below w.heap.size w w' := by
  have HT := Lib.hid ht
  clear ht hb
  by_cases h1 : 2000 < s.size
  · have h1I : 2000 < (s.size : Int) := by omega
    clear h1 hs
    go_enter Tryz.func3, Tryz.ntmps3
    go_wp2_with (go_at_call 9; refine (awake_c _ HT.out).mono ?_; intro e w0 hq; obtain ⟨he, hb⟩ := hq.out; subst he; have HB0 := Lib.hid hb; clear hb hq)
    go_ret
    exact ⟨rfl, HB0.out⟩
  · have h1I : (s.size : Int) ≤ 2000 := by omega
    obtain ⟨⟨n, b⟩, hR⟩ : ∃ r, intF bits s.data.toList = r := ⟨_, rfl⟩
    have HP := Lib.hid (fun w hm => int_c s bits (by omega) w hm (n, b) hR)
    have HR := Lib.hid (fun w => refInt_c bits s (by omega) w (n, b) hR)
    clear h1 hs hR
    go_enter Tryz.func3, Tryz.ntmps3
    go_wp2_with (first | (go_at_call 9; refine (awake_c _ HT.out).mono ?_; intro e w0 hq; obtain ⟨he, hb⟩ := hq.out; subst he; have HB0 := Lib.hid hb; clear hb hq) | (go_at_call 10; refine (HP.out _ (HT.out.ml.below HB0.out)).mono ?_; intro e w1 hq; obtain ⟨he, hb⟩ := hq.out; subst he; have HB1 := Lib.hid (below_step HB0.out hb); clear hb hq) | (go_at_call 11; refine (HR.out _).mono ?_; intro e w2 hq; obtain ⟨he, hb⟩ := hq.out; subst he; have HB2 := Lib.hid (below_step HB1.out hb); clear hb hq))
    go_ret
    exact ⟨rfl, HB2.out⟩
end Go.Proofs.YtjecdciabpjgcaaGreatDoor.Lz
