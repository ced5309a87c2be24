/-
  The program's product and quotient, in closed form: the whole products and quotients of math/bits, and what is rounded of them. No condition but that a word is one.
  The program's quotient, its lesser and greater one, and its Bin, in closed form. No condition but that a word is one.
  The program's Bin, in closed form. No condition but that a word is one.
  The document's examples, reckoned; the reference's Bin at a word's bits.
  The program's Kind, Canonical and Rel, in closed form. No condition but that a word is one.
  The plain law of FloatsBin: each operation on two, at each size, told or asked wrongly, is the reference's, and so are the kind and the one form of no number. No condition.
-/
import Derived.OpenShut
import Derived.Test.YtjfmomogidgbpaaZa0
import Derived.Test.YtjfmomogidgbpaaZa1
import Derived.Test.YtjfmomogidgbpaaZa2
import Derived.Test.YtjfmomogidgbpaaZa3
import Derived.Test.YtjfmomogidgbpaaZa4
import Derived.Test.YtjfmomogidgbpaaZa5
import Derived.Test.YtjfmomogidgbpaaZa6
namespace Go.Proofs.Ytjfmomogidgbpaa.Pure
set_option linter.unusedVariables false
set_option linter.unusedSimpArgs false
open Go.RowKit Go.Proofs.Ytjfmomogidgbpaa.PFl Go.Proofs.Ytjfmomogidgbpaa.Fl Go.Proofs.YtjfmomogidgbpaaW.PrintWords
theorem mul_parts (p00 p01 p10 p11 : Nat) :
    (p11 * 18446744073709551616 + (p10 + p01) * 4294967296 + p00) / 18446744073709551616 = p11 + (p10 + p00 / 4294967296) / 4294967296 + ((p10 + p00 / 4294967296) % 4294967296 + p01) / 4294967296 := by
  have e1 : (p11 * 18446744073709551616 + (p10 + p01) * 4294967296 + p00) / 4294967296 = p11 * 4294967296 + (p10 + p01) + p00 / 4294967296 := by omega
  rw [show (18446744073709551616 : Nat) = 4294967296 * 4294967296 from rfl, ← Nat.div_div_eq_div_mul]
  rw [show p11 * (4294967296 * 4294967296) = p11 * 18446744073709551616 from rfl, e1]
  generalize p00 / 4294967296 = a
  have e2 : p11 * 4294967296 + (p10 + p01) + a = 4294967296 * p11 + (p10 + a + p01) := by omega
  rw [e2, Nat.mul_add_div (by decide)]
  generalize p10 + a = t
  omega
theorem c_mul64 (x y : Nat) (hx : x < 18446744073709551616) (hy : y < 18446744073709551616) :
    bits_Mul64.f (x : Int) (y : Int) = some (((x * y / 18446744073709551616 : Nat) : Int), ((x * y % 18446744073709551616 : Nat) : Int)) := by
  unfold bits_Mul64.f
  have mk : ∀ z : Nat, z < 18446744073709551616 → Go.bits .and .u64 (z : Int) 4294967295 = ((z % 4294967296 : Nat) : Int) := by
    intro z hz
    exact and_mask z 32 hz (by decide)
  rw [mk x hx, mk y hy]
  have dx := Nat.div_add_mod x 4294967296
  have dy := Nat.div_add_mod y 4294967296
  have x0 := Nat.mod_lt x (show 0 < 4294967296 by decide)
  have y0 := Nat.mod_lt y (show 0 < 4294967296 by decide)
  have x1 : x / 4294967296 < 4294967296 := by omega
  have y1 : y / 4294967296 < 4294967296 := by omega
  rw [show (x : Int) / 4294967296 = ((x / 4294967296 : Nat) : Int) from by omega, show (y : Int) / 4294967296 = ((y / 4294967296 : Nat) : Int) from by omega]
  generalize ha : x / 4294967296 = a at *
  generalize hb : x % 4294967296 = b at *
  generalize hc : y / 4294967296 = c at *
  generalize hd : y % 4294967296 = d at *
  have m : ∀ u v : Nat, u < 4294967296 → v < 4294967296 → IntKind.u64.wrap ((u : Int) * (v : Int)) = ((u * v : Nat) : Int) ∧ u * v ≤ 18446744065119617025 := by
    intro u v hu hv
    have : u * v ≤ 4294967295 * 4294967295 := Nat.mul_le_mul (by omega) (by omega)
    refine ⟨?_, by omega⟩
    rw [IntKind.wrap_u64, ← Int.natCast_mul]
    omega
  rw [(m a c x1 y1).1, (m a d x1 y0).1, (m b d x0 y0).1, (m b c x0 y1).1]
  have l1 := (m a c x1 y1).2; have l2 := (m a d x1 y0).2; have l3 := (m b d x0 y0).2; have l4 := (m b c x0 y1).2
  have hxy : x * y = a * c * 18446744073709551616 + (a * d + b * c) * 4294967296 + b * d := by
    rw [← dx, ← dy, Nat.add_mul, Nat.mul_add, Nat.mul_add, Nat.add_mul]
    have e1 : 4294967296 * a * (4294967296 * c) = a * c * 18446744073709551616 := by
      rw [show (18446744073709551616 : Nat) = 4294967296 * 4294967296 from rfl]; ac_rfl
    have e2 : 4294967296 * a * d = a * d * 4294967296 := by ac_rfl
    have e3 : b * (4294967296 * c) = b * c * 4294967296 := by ac_rfl
    omega
  have hlo : IntKind.u64.wrap ((x : Int) * (y : Int)) = ((x * y % 18446744073709551616 : Nat) : Int) := by
    rw [IntKind.wrap_u64, ← Int.natCast_mul]; omega
  have hhi := mul_parts (b * d) (b * c) (a * d) (a * c)
  have hlt : x * y / 18446744073709551616 < 18446744073709551616 := by
    have : x * y ≤ 18446744073709551615 * 18446744073709551615 := Nat.mul_le_mul (by omega) (by omega)
    omega
  rw [hlo, hxy, hhi]
  rw [hxy, hhi] at hlt
  generalize a * c = P at *
  generalize a * d = Q at *
  generalize b * d = R at *
  generalize b * c = S at *
  have t1 : IntKind.u64.wrap ((Q : Int) + (R : Int) / 4294967296) = ((Q + R / 4294967296 : Nat) : Int) := by rw [IntKind.wrap_u64]; omega
  rw [t1, mk _ (by omega)]
  generalize hT : Q + R / 4294967296 = T at *
  refine congrArg some (Prod.ext ?_ rfl)
  show IntKind.u64.wrap (IntKind.u64.wrap ((P : Int) + (T : Int) / 4294967296) + IntKind.u64.wrap (((T % 4294967296 : Nat) : Int) + (S : Int)) / 4294967296) = _
  have e1 : IntKind.u64.wrap ((P : Int) + (T : Int) / 4294967296) = ((P + T / 4294967296 : Nat) : Int) := by rw [IntKind.wrap_u64]; omega
  have e2 : IntKind.u64.wrap (((T % 4294967296 : Nat) : Int) + (S : Int)) = ((T % 4294967296 + S : Nat) : Int) := by rw [IntKind.wrap_u64]; omega
  rw [e1, e2, IntKind.wrap_u64]
  omega
theorem resP_some (p : Int) (r : Nat) : resP p (some r) = (r : Int) := rfl
/-- The product of two words that are no NaNs. -/
theorem c_mul {p q f} (h : Pq p q f) (A B : Nat) (hA : A < 2 * f.signWeight) (hB : B < 2 * f.signWeight) (iA : rungOf f A ≤ f.infRung) (iB : rungOf f B ≤ f.infRung) (k : Nat) :
    ff_mul.f (k + 4) p q A B = some (resP p (f.mul A B)) := by
  obtain ⟨w1, w2, w3, w4, w5, w6, w7, w8, w9, w10, w11, w12⟩ := c_w h
  have hb := bin_ok h
  have hA' : A < 18446744073709551616 := by omega
  have hB' : B < 18446744073709551616 := by omega
  have ip : 0 < f.infRung := Nat.lt_of_lt_of_le (pw_pos _) hb
  have eneg : (negOf f A != negOf f B) = (negOf f A ^^ negOf f B) := by cases negOf f A <;> cases negOf f B <;> rfl
  unfold ff_mul.f Ieee.Format.mul
  rw [c_neg h A hA', c_neg h B hB', c_size h A hA', c_size h B hB', c_inf h]
  simp only [Option.bind_some]
  have yes : (rungOf f A = f.infRung ∨ rungOf f B = f.infRung) → ff_mul.j0 (k + 4) A B (negOf f A != negOf f B) (rungOf f A) (rungOf f B) true p q =
      some (resP p (((f.read A).product (f.read B)).map f.write)) := by
    intro hi
    simp only [ff_mul.j0]
    rw [if_pos True.intro]
    have j1t : ff_mul.j1 (k + 3) (negOf f A != negOf f B) true p q = some (resP p none) := by
      simp only [ff_mul.j1]
      rw [if_pos True.intro, c_nanv h]
      rfl
    have j1f : ff_mul.j1 (k + 3) (negOf f A != negOf f B) false p q = some (resP p (some (f.word (negOf f A ^^ negOf f B) f.infRung))) := by
      simp only [ff_mul.j1]
      rw [if_neg (by simp), c_inf h]
      simp only [Option.bind_some]
      rw [c_signed h _ _ w12, eneg]
      rfl
    by_cases z : (rungOf f A : Int) = 0
    · rw [if_pos z, j1t]
      have : rungOf f B = f.infRung := by omega
      rw [read_inf f B hb this, read_num f A (by omega), (mag_zero f (rungOf f A)).2 (by omega)]
      rfl
    · rw [if_neg z]
      by_cases z2 : (rungOf f B : Int) = 0
      · rw [beq_iff_eq.2 z2, j1t]
        have : rungOf f A = f.infRung := by omega
        rw [read_inf f A hb this, read_num f B (by omega), (mag_zero f (rungOf f B)).2 (by omega)]
        rfl
      · rw [beq_eq_false_iff_ne.2 z2, j1f]
        by_cases ci : rungOf f A = f.infRung
        · rw [read_inf f A hb ci]
          by_cases cj : rungOf f B = f.infRung
          · rw [read_inf f B hb cj]; rfl
          · rw [read_num f B (by omega)]
            simp only [Ieee.Datum.product]
            rw [if_neg (fun e => z2 (by have := (mag_zero f (rungOf f B)).1 e; omega))]
            rfl
        · rw [read_num f A (by omega), read_inf f B hb (by omega)]
          simp only [Ieee.Datum.product]
          rw [if_neg (fun e => z (by have := (mag_zero f (rungOf f A)).1 e; omega)), Bool.xor_comm]
          rfl
  by_cases ci : (rungOf f A : Int) = (f.infRung : Int)
  · rw [if_pos ci]; exact yes (.inl (by omega))
  · rw [if_neg ci]
    by_cases cj : (rungOf f B : Int) = (f.infRung : Int)
    · rw [beq_iff_eq.2 cj]; exact yes (.inr (by omega))
    · rw [beq_eq_false_iff_ne.2 cj]
      simp only [ff_mul.j0]
      rw [if_neg (by simp), c_parts h A hA', c_parts h B hB']
      simp only [Option.bind_some]
      rw [read_num f A (by omega), read_num f B (by omega)]
      have mA := mag_lt f (rungOf f A); have mB := mag_lt f (rungOf f B)
      have pl : ∀ r, r ≤ f.infRung → plOf f r ≤ 4096 := by
        intro r hr
        unfold plOf
        have : 2 ^ f.exponentBits ≤ 2 ^ 11 := Nat.pow_le_pow_right (by decide) w5
        have := Nat.mul_le_mul_right f.binade this
        have hlt : r < 4096 * f.binade := by omega
        have : r / f.binade < 4096 := (Nat.div_lt_iff_lt_mul (pw_pos f.fractionBits)).2 hlt
        omega
      have pA := pl _ iA
      have pB := pl _ iB
      generalize plOf f (rungOf f A) = a at *
      generalize plOf f (rungOf f B) = b at *
      generalize magOf f (rungOf f A) = m at *
      generalize magOf f (rungOf f B) = n at *
      rw [c_mul64 m n (by omega) (by omega)]
      simp only [Option.bind_some]
      have hN : m * n < 2 ^ 106 := by
        have : m * n ≤ 9007199254740991 * 9007199254740991 := Nat.mul_le_mul (by omega) (by omega)
        omega
      have pr := fun j hj => product_prog f (negOf f A) (negOf f B) m n (f.leastPlace + (a : Int)) (f.leastPlace + (b : Int)) j hj
      generalize hNN : m * n = N at *
      rw [eneg]
      generalize (negOf f A ^^ negOf f B) = s at *
      have rd : ∀ (M : Nat) (hM : M < 18446744073709551616) (E : Int), ff_round.f (k + 3) p q s M E false = some ((f.nearest s M E : Nat) : Int) := by
        intro M hM E
        rw [c_round h s M hM _ false (fun x => by cases x) (k + 1)]
        have sc := nearest_scale f s M 1 (E - 1)
        rw [Nat.pow_one, Nat.mul_comm] at sc
        show some ((f.nearest s (2 * M) _ : Nat) : Int) = _
        rw [sc, show E - 1 + ((1 : Nat) : Int) = E from by omega]
      have ew : ∀ j : Nat, j ≤ 64 → wrap64 (wrap64 (f.leastPlace + (a : Int) + (f.leastPlace + (b : Int))) + (j : Int)) = f.leastPlace + (a : Int) + (f.leastPlace + (b : Int)) + (j : Int) := by
        intro j hj; unfold wrap64; omega
      by_cases hz : N / 18446744073709551616 = 0
      · rw [hz, show bits_Len64.f ((0 : Nat) : Int) = some 0 from by decide +kernel]
        simp only [Option.bind_some]
        rw [if_neg (by decide), pr 0 (.inl rfl), jam_zero, resP_some]
        have := ew 0 (by decide)
        rw [show ((0 : Nat) : Int) = 0 from rfl] at this ⊢
        rw [this, rd _ (by omega), Nat.mod_eq_of_lt (by omega)]
        rfl
      · have hhi : N / 18446744073709551616 < 2 ^ 42 := by omega
        generalize hH : N / 18446744073709551616 = H at *
        have hlH : H.log2 ≤ 41 := by have := (Nat.log2_lt (n := H) (k := 42) hz).2 hhi; omega
        rw [c_len H (by omega) hz]
        simp only [Option.bind_some]
        rw [if_pos (by omega), c_jam _ _ (by omega) (by omega) (by omega)]
        simp only [Option.bind_some]
        rw [if_pos (by rw [IntKind.wrap_u64]; omega), show IntKind.u64.wrap (wrap64 (64 - ((H.log2 + 1 : Nat) : Int))) = ((64 - (H.log2 + 1) : Nat) : Int) from by rw [IntKind.wrap_u64]; unfold wrap64; omega]
        obtain ⟨j, hj⟩ : ∃ j, j = H.log2 + 1 := ⟨_, rfl⟩
        rw [← hj]
        have h1 := Nat.log2_self_le hz
        have h2 : H < 2 ^ j := by rw [hj]; exact Nat.lt_log2_self
        have hsplit : 2 ^ j * 2 ^ (64 - j) = 18446744073709551616 := by rw [← Nat.pow_add, show j + (64 - j) = 64 from by omega]
        have hlt : H * 2 ^ (64 - j) < 18446744073709551616 := by
          rw [← hsplit]; exact Nat.mul_lt_mul_of_pos_right h2 (pw_pos _)
        have hge : 2 ^ 63 ≤ H * 2 ^ (64 - j) := by
          have : 2 ^ H.log2 * 2 ^ (64 - j) ≤ H * 2 ^ (64 - j) := Nat.mul_le_mul_right _ h1
          rw [← Nat.pow_add, show H.log2 + (64 - j) = 63 from by omega] at this
          exact this
        rw [shl_nat H (64 - j) hlt (by omega)]
        obtain ⟨X, hX⟩ : ∃ X, X = H * 2 ^ (64 - j - 1) := ⟨_, rfl⟩
        have hX2 : H * 2 ^ (64 - j) = 2 * X := by
          rw [hX, show 64 - j = 64 - j - 1 + 1 from by omega, Nat.pow_succ]
          rw [show 64 - j - 1 + 1 - 1 = 64 - j - 1 from by omega]
          have : H * (2 ^ (64 - j - 1) * 2) = 2 * (H * 2 ^ (64 - j - 1)) := by ac_rfl
          exact this
        have hlo : N % 18446744073709551616 < 18446744073709551616 := Nat.mod_lt _ (by decide)
        have hNe : N = H * 2 ^ (64 - j) * 2 ^ j + N % 18446744073709551616 := by
          have := Nat.div_add_mod N 18446744073709551616
          rw [hH, ← hsplit, Nat.mul_comm (2 ^ j), Nat.mul_comm, ← Nat.mul_assoc] at this
          rw [← hsplit] at hH ⊢
          rw [Nat.mul_comm (2 ^ j)]
          exact this.symm
        have hjam : jam N j = H * 2 ^ (64 - j) + jam (N % 18446744073709551616) j := by
          conv => lhs; rw [hNe]
          exact jam_add _ _ j (by omega)
        have hjl : jam (N % 18446744073709551616) j < 2 ^ (64 - j) := by
          have hd : N % 18446744073709551616 / 2 ^ j < 2 ^ (64 - j) := (Nat.div_lt_iff_lt_mul (pw_pos j)).2 (by rw [Nat.mul_comm, hsplit]; exact hlo)
          have hev : ∃ c, 2 ^ (64 - j) = 2 * c := ⟨2 ^ (64 - j - 1), by rw [← Nat.pow_succ', show (64 - j - 1).succ = 64 - j from by omega]⟩
          obtain ⟨c, hc⟩ := hev
          unfold jam
          split <;> omega
        have hor : jam (N % 18446744073709551616) j ||| H * 2 ^ (64 - j) = jam N j := by
          rw [hjam, Nat.or_comm, Nat.mul_comm H]
          exact (Nat.two_pow_add_eq_or_of_lt hjl H).symm
        have hjN : jam N j < 18446744073709551616 := by
          rw [← hor]
          exact Nat.or_lt_two_pow (n := 64) (Nat.lt_of_lt_of_le hjl (Nat.pow_le_pow_right (by decide) (by omega))) hlt
        rw [or_nat _ _ (Nat.lt_of_lt_of_le hjl (by have : 2 ^ (64 - j) ≤ 2 ^ 64 := Nat.pow_le_pow_right (by decide) (by omega)
                                                   exact this)) hlt, hor, ew j (by omega), rd _ hjN]
        rw [pr j (.inr (pow_le_log2 _ _ (by
          have hNj : H * 2 ^ (64 - j) ≤ N / 2 ^ j := (Nat.le_div_iff_mul_le (pw_pos j)).2 (by rw [hNe]; exact Nat.le_add_right _ _)
          have : 2 ^ (f.fractionBits + 2) ≤ 2 ^ 63 := Nat.pow_le_pow_right (by decide) (by omega)
          omega))), resP_some]
        rfl
/-- One half of a long division: the digit that is tried is brought down to the quotient's. -/
structure Kn (y H : Nat) (q r : Nat) : Prop where
  top : 9223372036854775808 ≤ y
  lt : y < 18446744073709551616
  le : H < y
  sum : q * (y / 4294967296) + r = H
  big : q ≤ 4294967297
theorem Kn.q_lt {y H q r : Nat} (h : Kn y H q r) : H * 4294967296 / y < 4294967296 :=
  (Nat.div_lt_iff_lt_mul (by have := h.top; omega)).2 (by have := h.le; omega)
/-- The test of the loop says just whether the digit is too great. -/
theorem Kn.test {y H q r : Nat} (h : Kn y H q r) : 4294967296 * r < q * (y % 4294967296) ↔ H * 4294967296 / y < q := by
  have hy : 0 < y := by have := h.top; omega
  have hd := Nat.div_add_mod y 4294967296
  have hs := h.sum
  have e1 : q * y = q * (y / 4294967296) * 4294967296 + q * (y % 4294967296) := by
    conv => lhs; rw [← hd, Nat.mul_add]
    congr 1
    ac_rfl
  have e2 : H * 4294967296 = q * (y / 4294967296) * 4294967296 + 4294967296 * r := by
    rw [← hs, Nat.add_mul, Nat.mul_comm r]
  rw [Nat.div_lt_iff_lt_mul hy]
  omega
theorem Kn.step {y H q r : Nat} (h : Kn y H q r) (hq : H * 4294967296 / y < q) : Kn y H (q - 1) (r + y / 4294967296) := by
  refine ⟨h.top, h.lt, h.le, ?_, by have := h.big; omega⟩
  have hs := h.sum
  have hq0 : 0 < q := Nat.lt_of_le_of_lt (Nat.zero_le _) hq
  obtain ⟨c, rfl⟩ : ∃ c, q = c + 1 := ⟨q - 1, by omega⟩
  rw [show c + 1 - 1 = c from by omega]
  rw [Nat.add_mul, Nat.one_mul] at hs
  omega
/-- A rest that is great ends the loop: the digit is the quotient's. -/
theorem Kn.stop {y H q r : Nat} (h : Kn y H q r) (hr : 4294967296 ≤ r) (hq : q ≤ 4294967296) : ¬ H * 4294967296 / y < q := by
  rw [← h.test]
  have : q * (y % 4294967296) ≤ 4294967296 * 4294967295 := Nat.mul_le_mul hq (by omega)
  omega
theorem Kn.start {y H : Nat} (h1 : 9223372036854775808 ≤ y) (h2 : y < 18446744073709551616) (h3 : H < y) : Kn y H (H / (y / 4294967296)) (H - H / (y / 4294967296) * (y / 4294967296)) ∧
    H * 4294967296 / y ≤ H / (y / 4294967296) ∧ H - H / (y / 4294967296) * (y / 4294967296) < 4294967296 := by
  have hn : 2147483648 ≤ y / 4294967296 := by omega
  have hn2 : y / 4294967296 < 4294967296 := by omega
  have hd := Nat.div_add_mod H (y / 4294967296)
  have hm := Nat.mod_lt H (show 0 < y / 4294967296 by omega)
  have hle : H / (y / 4294967296) * (y / 4294967296) ≤ H := Nat.div_mul_le_self _ _
  refine ⟨⟨h1, h2, h3, by omega, ?_⟩, ?_, ?_⟩
  · have : H / (y / 4294967296) < 4294967298 := (Nat.div_lt_iff_lt_mul (by omega)).2 (by omega)
    omega
  · have hk : H * 4294967296 / y ≤ H * 4294967296 / (y / 4294967296 * 4294967296) := Nat.div_le_div_left (Nat.div_mul_le_self _ _) (by omega)
    rw [Nat.mul_div_mul_right _ _ (by decide)] at hk
    exact hk
  · rw [Nat.mul_comm] at hd; omega
theorem tst {y H q r : Nat} (h : Kn y H q r) (hr : r < 4294967296) (hq : q < 4294967296) :
    decide (IntKind.u64.wrap ((q : Int) * ((y % 4294967296 : Nat) : Int)) > IntKind.u64.wrap (IntKind.u64.wrap (4294967296 * (r : Int)) + 0)) = decide (H * 4294967296 / y < q) := by
  have h1 : q * (y % 4294967296) ≤ 4294967295 * 4294967295 := Nat.mul_le_mul (by omega) (by omega)
  have e1 : IntKind.u64.wrap ((q : Int) * ((y % 4294967296 : Nat) : Int)) = ((q * (y % 4294967296) : Nat) : Int) := by
    rw [IntKind.wrap_u64, ← Int.natCast_mul]; omega
  have e2 : IntKind.u64.wrap (IntKind.u64.wrap (4294967296 * (r : Int)) + 0) = ((4294967296 * r : Nat) : Int) := by
    rw [IntKind.wrap_u64, IntKind.wrap_u64]; omega
  rw [e1, e2, decide_eq_decide, ← h.test]
  omega
/-- The first loop ends at the quotient's first digit. -/
theorem l0_ok (y H : Nat) (x11 : Int) : ∀ (d q r : Nat), Kn y H q r → r < 4294967296 → H * 4294967296 / y + d = q → ∀ k, 2 * d + 2 ≤ k →
    ∃ j, k ≤ j + 2 * d + 2 ∧ bits_Div64.l0 k y 0 ((y / 4294967296 : Nat) : Int) ((y % 4294967296 : Nat) : Int) x11 0 0 q r =
      bits_Div64.j2 j y 0 ((y / 4294967296 : Nat) : Int) ((y % 4294967296 : Nat) : Int) x11 0 0 ((H * 4294967296 / y : Nat) : Int) := by
  intro d
  induction d with
  | zero =>
    intro q r h hr hd k hk
    obtain ⟨k, rfl⟩ : ∃ m, k = m + 2 := ⟨k - 2, by omega⟩
    have hq := h.q_lt
    have hq2 : q < 4294967296 := by omega
    refine ⟨k, by omega, ?_⟩
    simp only [bits_Div64.l0]
    rw [if_neg (by omega), tst h hr hq2, decide_eq_false (by omega)]
    simp only [bits_Div64.j1]
    rw [if_neg (by simp), show q = H * 4294967296 / y from by omega]
  | succ d ih =>
    intro q r h hr hd k hk
    obtain ⟨k, rfl⟩ : ∃ m, k = m + 2 := ⟨k - 2, by omega⟩
    have hlt : H * 4294967296 / y < q := by omega
    have hs := h.step hlt
    have hb := h.big
    have hy := h.lt
    have hn2 : y / 4294967296 < 4294967296 := by omega
    have go : bits_Div64.j1 (k + 1) y 0 ((y / 4294967296 : Nat) : Int) ((y % 4294967296 : Nat) : Int) x11 0 0 q r true =
        if IntKind.u64.wrap ((r : Int) + ((y / 4294967296 : Nat) : Int)) ≥ 4294967296 then bits_Div64.j2 k y 0 ((y / 4294967296 : Nat) : Int) ((y % 4294967296 : Nat) : Int) x11 0 0 (IntKind.u64.wrap ((q : Int) - 1))
        else bits_Div64.l0 k y 0 ((y / 4294967296 : Nat) : Int) ((y % 4294967296 : Nat) : Int) x11 0 0 (IntKind.u64.wrap ((q : Int) - 1)) (IntKind.u64.wrap ((r : Int) + ((y / 4294967296 : Nat) : Int))) := by
      simp only [bits_Div64.j1]
      rw [if_pos True.intro]
    have e1 : IntKind.u64.wrap ((r : Int) + ((y / 4294967296 : Nat) : Int)) = ((r + y / 4294967296 : Nat) : Int) := by rw [IntKind.wrap_u64]; omega
    have hq0 : 0 < q := Nat.lt_of_le_of_lt (Nat.zero_le _) hlt
    have e2 : IntKind.u64.wrap ((q : Int) - 1) = ((q - 1 : Nat) : Int) := by rw [IntKind.wrap_u64]; omega
    rw [e1, e2] at go
    have fin : ∃ j, k + 2 ≤ j + 2 * (d + 1) + 2 ∧ bits_Div64.j1 (k + 1) y 0 ((y / 4294967296 : Nat) : Int) ((y % 4294967296 : Nat) : Int) x11 0 0 q r true =
        bits_Div64.j2 j y 0 ((y / 4294967296 : Nat) : Int) ((y % 4294967296 : Nat) : Int) x11 0 0 ((H * 4294967296 / y : Nat) : Int) := by
      rw [go]
      by_cases c : ((r + y / 4294967296 : Nat) : Int) ≥ 4294967296
      · rw [if_pos c]
        have := hs.stop (by omega) (by omega)
        refine ⟨k, by omega, ?_⟩
        rw [show q - 1 = H * 4294967296 / y from by omega]
      · rw [if_neg c]
        obtain ⟨j, hj, e⟩ := ih (q - 1) (r + y / 4294967296) hs (by omega) (by omega) k (by omega)
        exact ⟨j, by omega, e⟩
    simp only [bits_Div64.l0]
    by_cases c : (q : Int) ≥ 4294967296
    · rw [if_pos c]; exact fin
    · rw [if_neg c, tst h hr (by omega), decide_eq_true hlt]; exact fin
/-- The second loop ends at the quotient's second digit. -/
theorem l1_ok (y H : Nat) (Q1 : Nat) (hQ1 : Q1 < 4294967296) : ∀ (d q r : Nat), Kn y H q r → r < 4294967296 → H * 4294967296 / y + d = q → ∀ k, 2 * d + 2 ≤ k →
    bits_Div64.l1 k y 0 ((y / 4294967296 : Nat) : Int) ((y % 4294967296 : Nat) : Int) 0 Q1 r H q =
      some (((Q1 * 4294967296 + H * 4294967296 / y : Nat) : Int), ((H * 4294967296 % y : Nat) : Int)) := by
  have out : ∀ q : Nat, q = H * 4294967296 / y → 9223372036854775808 ≤ y → y < 18446744073709551616 → H < y →
      (IntKind.u64.wrap (IntKind.u64.wrap ((Q1 : Int) * 4294967296) + (q : Int)), shr .u64 (IntKind.u64.wrap (IntKind.u64.wrap (IntKind.u64.wrap ((H : Int) * 4294967296) + 0) - IntKind.u64.wrap ((q : Int) * (y : Int)))) 0) =
      (((Q1 * 4294967296 + H * 4294967296 / y : Nat) : Int), ((H * 4294967296 % y : Nat) : Int)) := by
    intro q hq h1 h2 h3
    have hql : q < 4294967296 := by
      rw [hq]; exact (Nat.div_lt_iff_lt_mul (by omega)).2 (by omega)
    rw [← hq]
    have hd := Nat.div_add_mod (H * 4294967296) y
    have hm := Nat.mod_lt (H * 4294967296) (show 0 < y by omega)
    rw [← hq, Nat.mul_comm] at hd
    generalize H * 4294967296 % y = r at *
    refine Prod.ext ?_ ?_
    · show IntKind.u64.wrap (IntKind.u64.wrap ((Q1 : Int) * 4294967296) + (q : Int)) = _
      rw [IntKind.wrap_u64, IntKind.wrap_u64]; omega
    · show shr .u64 (IntKind.u64.wrap (IntKind.u64.wrap (IntKind.u64.wrap ((H : Int) * 4294967296) + 0) - IntKind.u64.wrap ((q : Int) * (y : Int)))) 0 = _
      have e : IntKind.u64.wrap (IntKind.u64.wrap (IntKind.u64.wrap ((H : Int) * 4294967296) + 0) - IntKind.u64.wrap ((q : Int) * (y : Int))) = (r : Int) := by
        rw [IntKind.wrap_u64, IntKind.wrap_u64, IntKind.wrap_u64, IntKind.wrap_u64, ← Int.natCast_mul]
        generalize q * y = Z at *
        omega
      rw [e]
      have := shr_nat r 0 (by decide)
      rw [Nat.pow_zero, Nat.div_one] at this
      exact this
  intro d
  induction d with
  | zero =>
    intro q r h hr hd k hk
    obtain ⟨k, rfl⟩ : ∃ m, k = m + 2 := ⟨k - 2, by omega⟩
    have hq := h.q_lt
    have hq2 : q < 4294967296 := by omega
    simp only [bits_Div64.l1]
    rw [if_neg (by omega), tst h hr hq2, decide_eq_false (by omega)]
    simp only [bits_Div64.j4]
    rw [if_neg (by simp), if_pos (by decide), out q (by omega) h.top h.lt h.le]
  | succ d ih =>
    intro q r h hr hd k hk
    obtain ⟨k, rfl⟩ : ∃ m, k = m + 2 := ⟨k - 2, by omega⟩
    have hlt : H * 4294967296 / y < q := by omega
    have hs := h.step hlt
    have hb := h.big
    have hy := h.lt
    have hn2 : y / 4294967296 < 4294967296 := by omega
    have e1 : IntKind.u64.wrap ((r : Int) + ((y / 4294967296 : Nat) : Int)) = ((r + y / 4294967296 : Nat) : Int) := by rw [IntKind.wrap_u64]; omega
    have hq0 : 0 < q := Nat.lt_of_le_of_lt (Nat.zero_le _) hlt
    have e2 : IntKind.u64.wrap ((q : Int) - 1) = ((q - 1 : Nat) : Int) := by rw [IntKind.wrap_u64]; omega
    have fin : bits_Div64.j4 (k + 1) y 0 ((y / 4294967296 : Nat) : Int) ((y % 4294967296 : Nat) : Int) 0 Q1 r H q true =
        some (((Q1 * 4294967296 + H * 4294967296 / y : Nat) : Int), ((H * 4294967296 % y : Nat) : Int)) := by
      simp only [bits_Div64.j4]
      rw [if_pos True.intro, e1, e2]
      by_cases c : ((r + y / 4294967296 : Nat) : Int) ≥ 4294967296
      · rw [if_pos c, if_pos (by decide)]
        have := hs.stop (by omega) (by omega)
        rw [out (q - 1) (by omega) h.top h.lt h.le]
      · rw [if_neg c]
        exact ih (q - 1) (r + y / 4294967296) hs (by omega) (by omega) k (by omega)
    simp only [bits_Div64.l1]
    by_cases c : (q : Int) ≥ 4294967296
    · rw [if_pos c]; exact fin
    · rw [if_neg c, tst h hr (by omega), decide_eq_true hlt]; exact fin
theorem Kn.two {y H q r : Nat} (h : Kn y H q r) : q ≤ H * 4294967296 / y + 2 := by
  apply Classical.byContradiction; intro c
  have h1 : H * 4294967296 / y < q := by omega
  have s1 := h.step h1
  have h2 : H * 4294967296 / y < q - 1 := by omega
  have s2 := s1.step h2
  have hy := h.top
  have := h.big
  have hq : 2 ≤ q := by
    have := Nat.zero_le (H * 4294967296 / y); omega
  have st := s2.stop (by omega) (by omega)
  omega
theorem c_lz (M : Nat) (hM : M < 18446744073709551616) (h0 : M ≠ 0) : bits_LeadingZeros64.f (M : Int) = some ((63 - M.log2 : Nat) : Int) := by
  have hlog : M.log2 ≤ 63 := by have := (Nat.log2_lt (n := M) (k := 64) h0).2 hM; omega
  unfold bits_LeadingZeros64.f
  rw [c_len M hM h0]
  simp only [Option.bind_some]
  rw [show wrap64 (64 - ((M.log2 + 1 : Nat) : Int)) = ((63 - M.log2 : Nat) : Int) from by unfold wrap64; omega]
theorem tdiv_nat (a b : Nat) : Int.tdiv (a : Int) (b : Int) = ((a / b : Nat) : Int) := rfl
theorem c_div64 (H y : Nat) (h1 : 9223372036854775808 ≤ y) (h2 : y < 18446744073709551616) (h3 : H < y) (h0 : H ≠ 0) (k : Nat) (hk : 20 ≤ k) (E : Nat) (hE : E = 4294967296 * 4294967296) :
    bits_Div64.f k H 0 y = some (((H * E / y : Nat) : Int), ((H * E % y : Nat) : Int)) := by
  have hn : 2147483648 ≤ y / 4294967296 := by omega
  have hn2 : y / 4294967296 < 4294967296 := by omega
  have hlog : y.log2 = 63 := (Nat.log2_eq_iff (by omega)).2 ⟨by omega, by omega⟩
  unfold bits_Div64.f
  rw [if_neg (by omega), if_neg (by omega), if_neg (by omega), c_lz y h2 (by omega), hlog]
  simp only [Option.bind_some]
  have ez : IntKind.u64.wrap (((63 - 63 : Nat) : Int)) = 0 := by decide +kernel
  rw [ez, if_pos (by decide), if_pos (by decide +kernel)]
  have es : ∀ z : Nat, z < 18446744073709551616 → shl .u64 (z : Int) 0 = (z : Int) := by
    intro z hz
    have := shl_nat z 0 (by omega) (by decide)
    rw [Nat.pow_zero, Nat.mul_one] at this
    exact this
  have e0 : shl .u64 0 0 = 0 := es 0 (by decide)
  have eor : Go.bits .or .u64 (shl .u64 (H : Int) 0) (shr .u64 0 (IntKind.u64.wrap (64 - 0))) = (H : Int) := by
    rw [es H (by omega), show shr .u64 0 (IntKind.u64.wrap (64 - 0)) = ((0 : Nat) : Int) from by decide +kernel, or_nat H 0 (by omega) (by decide), Nat.or_zero]
  have eand : Go.bits .and .u64 (shl .u64 (y : Int) 0) 4294967295 = ((y % 4294967296 : Nat) : Int) := by
    rw [es y h2]; exact and_mask y 32 h2 (by decide)
  rw [eor, eand, es y h2, e0, show Go.bits .and .u64 0 4294967295 = 0 from by decide +kernel]
  rw [show (y : Int) / 4294967296 = ((y / 4294967296 : Nat) : Int) from by omega, if_neg (by omega)]
  obtain ⟨k1, k2, k3⟩ := Kn.start h1 h2 h3
  have hd1 : H / (y / 4294967296) ≤ H := Nat.div_le_self _ _
  have hd2 : H / (y / 4294967296) * (y / 4294967296) ≤ H := Nat.div_mul_le_self _ _
  have et : IntKind.u64.wrap (Int.tdiv (H : Int) ((y / 4294967296 : Nat) : Int)) = ((H / (y / 4294967296) : Nat) : Int) := by
    rw [tdiv_nat, IntKind.wrap_u64]
    generalize H / (y / 4294967296) = q at *
    omega
  have er : IntKind.u64.wrap ((H : Int) - IntKind.u64.wrap (((H / (y / 4294967296) : Nat) : Int) * ((y / 4294967296 : Nat) : Int))) = ((H - H / (y / 4294967296) * (y / 4294967296) : Nat) : Int) := by
    rw [← Int.natCast_mul]
    generalize H / (y / 4294967296) * (y / 4294967296) = z at *
    rw [IntKind.wrap_u64, IntKind.wrap_u64]; omega
  rw [et, er]
  have two := k1.two
  obtain ⟨j, hj, e⟩ := l0_ok y H (H : Int) (H / (y / 4294967296) - H * 4294967296 / y) _ _ k1 k3 (by omega) k (by omega)
  rw [show ((0 : Int) / 4294967296) = 0 from rfl, e]
  obtain ⟨j, rfl⟩ : ∃ i, j = i + 1 := ⟨j - 1, by omega⟩
  simp only [bits_Div64.j2]
  rw [if_neg (by omega)]
  have hq := k1.q_lt
  have hdm := Nat.div_add_mod (H * 4294967296) y
  have hml := Nat.mod_lt (H * 4294967296) (show 0 < y by omega)
  generalize hQ : H * 4294967296 / y = Q at *
  generalize hR : H * 4294967296 % y = R at *
  have eu : IntKind.u64.wrap (IntKind.u64.wrap (IntKind.u64.wrap ((H : Int) * 4294967296) + 0) - IntKind.u64.wrap ((Q : Int) * (y : Int))) = (R : Int) := by
    rw [IntKind.wrap_u64, IntKind.wrap_u64, IntKind.wrap_u64, IntKind.wrap_u64, ← Int.natCast_mul, Nat.mul_comm Q]
    generalize y * Q = Z at *
    omega
  rw [eu]
  obtain ⟨m1, m2, m3⟩ := Kn.start h1 h2 hml
  have hd3 : R / (y / 4294967296) ≤ R := Nat.div_le_self _ _
  have hd4 : R / (y / 4294967296) * (y / 4294967296) ≤ R := Nat.div_mul_le_self _ _
  have et2 : IntKind.u64.wrap (Int.tdiv (R : Int) ((y / 4294967296 : Nat) : Int)) = ((R / (y / 4294967296) : Nat) : Int) := by
    rw [tdiv_nat, IntKind.wrap_u64]
    generalize R / (y / 4294967296) = q at *
    omega
  have er2 : IntKind.u64.wrap ((R : Int) - IntKind.u64.wrap (((R / (y / 4294967296) : Nat) : Int) * ((y / 4294967296 : Nat) : Int))) = ((R - R / (y / 4294967296) * (y / 4294967296) : Nat) : Int) := by
    rw [← Int.natCast_mul]
    generalize R / (y / 4294967296) * (y / 4294967296) = z at *
    rw [IntKind.wrap_u64, IntKind.wrap_u64]; omega
  rw [et2, er2]
  have two2 := m1.two
  rw [l1_ok y R Q hq (R / (y / 4294967296) - R * 4294967296 / y) _ _ m1 m3 (by omega) j (by omega)]
  -- the two digits are the quotient
  have hN : H * E = y * (Q * 4294967296 + R * 4294967296 / y) + R * 4294967296 % y := by
    have d2 := Nat.div_add_mod (R * 4294967296) y
    have : H * E = (y * Q + R) * 4294967296 := by rw [hdm, hE, Nat.mul_assoc]
    rw [this, Nat.add_mul, Nat.mul_add, ← Nat.mul_assoc]
    omega
  have hmod := Nat.mod_lt (R * 4294967296) (show 0 < y by omega)
  have f1 : H * E / y = Q * 4294967296 + R * 4294967296 / y := by
    rw [hN, Nat.mul_add_div (by omega), Nat.div_eq_of_lt hmod, Nat.add_zero]
  have f2 : H * E % y = R * 4294967296 % y := by
    rw [hN, Nat.mul_add_mod, Nat.mod_eq_of_lt hmod]
  rw [f1, f2]
end Go.Proofs.Ytjfmomogidgbpaa.Pure
namespace Go.Proofs.Ytjfmomogidgbpaa.Pure
set_option linter.unusedVariables false
set_option linter.unusedSimpArgs false
open Go.RowKit Go.Proofs.Ytjfmomogidgbpaa.PFl Go.Proofs.Ytjfmomogidgbpaa.Fl Go.Proofs.YtjfmomogidgbpaaW.PrintWords
/-- A quotient's digits, made and rounded. -/
theorem c_div_core {p q f} (h : Pq p q f) (s : Bool) (m n u v : Nat) (i j : Int) (hm : m ≠ 0) (hn : n ≠ 0) (hm2 : m < 2 * f.binade)
    (x1 : 4611686018427387904 ≤ m * 2 ^ u) (x2 : m * 2 ^ u < n * 2 ^ v) (y1 : 9223372036854775808 ≤ n * 2 ^ v) (y2 : n * 2 ^ v < 18446744073709551616) (ht : v ≤ 63) (hu : u ≤ 63) (e : Int) (he : e = i - u - (j - v) - 64) (k : Nat) (hk : 20 ≤ k)
    (t t' : Bool) (hs : s = (t ^^ t')) :
    ((bits_Div64.f k ((m * 2 ^ u : Nat) : Int) 0 ((n * 2 ^ v : Nat) : Int)).bind fun b => (ff_round.f k p q s b.1 e (b.2 != 0)).bind fun r => some r) =
      some (resP p (((Ieee.Datum.number t m i).quotient (f.fractionBits + 2) (.number t' n j)).map f.write)) := by
  obtain ⟨w1, w2, w3, w4, w5, w6, w7, w8, w9, w10, w11, w12⟩ := c_w h
  obtain ⟨E, hE⟩ : ∃ E : Nat, E = 4294967296 * 4294967296 := ⟨_, rfl⟩
  have hX0 : m * 2 ^ u ≠ 0 := by omega
  rw [c_div64 _ _ y1 y2 x2 hX0 k hk E hE]
  simp only [Option.bind_some]
  have hE2 : E = 2 ^ 64 := by rw [hE]
  obtain ⟨K, hK⟩ : ∃ K : Nat, K + v = u + 64 := ⟨u + 64 - v, by omega⟩
  have hXE : m * 2 ^ u * E = m * 2 ^ (K + v) := by rw [hE2, hK, Nat.pow_add, Nat.mul_assoc]
  have sc := quo_scale m n 0 K (Nat.pos_of_ne_zero hn) K (by omega) v
  rw [Nat.zero_add] at sc
  rw [← hXE] at sc
  have hq : 4611686018427387904 ≤ m * 2 ^ K / n := by
    rw [← sc.1]
    refine (Nat.le_div_iff_mul_le (by omega)).2 ?_
    have a : 4611686018427387904 * (n * 2 ^ v) ≤ 4611686018427387904 * E := Nat.mul_le_mul_left _ (by rw [hE]; omega)
    exact Nat.le_trans a (Nat.mul_le_mul_right _ x1)
  have hlt : m * 2 ^ u * E / (n * 2 ^ v) < 18446744073709551616 := by
    refine (Nat.div_lt_iff_lt_mul (by omega)).2 ?_
    have : m * 2 ^ u * E < n * 2 ^ v * E := Nat.mul_lt_mul_of_pos_right x2 (by omega)
    rw [Nat.mul_comm _ (n * 2 ^ v)]
    have hE3 : E = 18446744073709551616 := by rw [hE]
    rw [hE3] at this ⊢
    exact this
  have pr := quotient_prog f t t' m n i j (Nat.pos_of_ne_zero hm) (Nat.pos_of_ne_zero hn) hm2 K (by
    have : 2 ^ (f.fractionBits + 1) ≤ 2 ^ 62 := Nat.pow_le_pow_right (by decide) (by omega)
    exact Nat.le_trans this hq)
  rw [pr]
  have hb : (((m * 2 ^ u * E % (n * 2 ^ v) : Nat) : Int) != 0).toNat = if m * 2 ^ K % n = 0 then 0 else 1 := by
    by_cases z : m * 2 ^ K % n = 0
    · rw [if_pos z, sc.2.2 z]; rfl
    · have : m * 2 ^ u * E % (n * 2 ^ v) ≠ 0 := fun x => z (sc.2.1 x)
      rw [if_neg z, bne_iff_ne.2 (by omega)]; rfl
  rw [c_round' h s _ hlt e _ (fun _ => by rw [sc.1]; exact Nat.le_trans (by decide) hq) k (by omega)]
  simp only [Option.bind_some]
  rw [hb, sc.1, hs, he]
  rw [show i - (u : Int) - (j - (v : Int)) - 64 - 1 = i - j - 1 - (K : Int) from by omega]
  rfl
/-- The quotient of two words that are no NaNs. -/
theorem c_div {p q f} (h : Pq p q f) (A B : Nat) (hA : A < 2 * f.signWeight) (hB : B < 2 * f.signWeight) (iA : rungOf f A ≤ f.infRung) (iB : rungOf f B ≤ f.infRung) (k : Nat) (hk : 30 ≤ k) :
    ff_div.f k p q A B = some (resP p (f.div A B)) := by
  obtain ⟨w1, w2, w3, w4, w5, w6, w7, w8, w9, w10, w11, w12⟩ := c_w h
  have hb := bin_ok h
  have ip : 0 < f.infRung := Nat.lt_of_lt_of_le (pw_pos _) hb
  have hA' : A < 18446744073709551616 := by omega
  have hB' : B < 18446744073709551616 := by omega
  have eneg : (negOf f A != negOf f B) = (negOf f A ^^ negOf f B) := by cases negOf f A <;> cases negOf f B <;> rfl
  obtain ⟨k, rfl⟩ : ∃ m, k = m + 2 := ⟨k - 2, by omega⟩
  unfold ff_div.f Ieee.Format.div
  rw [c_neg h A hA', c_neg h B hB', c_size h A hA', c_size h B hB', c_inf h]
  simp only [Option.bind_some]
  rw [eneg]
  have j0t : ff_div.j0 (k + 2) A B (negOf f A ^^ negOf f B) (rungOf f A) (rungOf f B) f.infRung true p q = some (resP p none) := by
    simp only [ff_div.j0]
    rw [if_pos True.intro, c_nanv h]
    rfl
  have winf : ∀ s : Bool, ff_signed.f p q s f.infRung = some (resP p (some (f.word s f.infRung))) := fun s => c_signed h s _ w12
  have wz : ∀ s : Bool, ff_signed.f p q s 0 = some (resP p (some (f.word s 0))) := fun s => c_signed h s 0 (by omega)
  have j1t : ff_div.j1 (k + 1) A B (negOf f A ^^ negOf f B) (rungOf f A) (rungOf f B) f.infRung true p q = some (resP p (some (f.word (negOf f A ^^ negOf f B) f.infRung))) := by
    simp only [ff_div.j1]
    rw [if_pos True.intro, winf]
    rfl
  by_cases ci : (rungOf f A : Int) = (f.infRung : Int)
  · rw [if_pos ci, read_inf f A hb (by omega)]
    by_cases cj : (rungOf f B : Int) = (f.infRung : Int)
    · rw [if_pos cj, j0t, read_inf f B hb (by omega)]; rfl
    · rw [if_neg cj, if_neg (by omega), read_num f B (by omega)]
      simp only [ff_div.j0]
      rw [if_neg (by simp), if_pos ci, j1t]
      rfl
  · rw [if_neg ci, read_num f A (by omega)]
    have main : (rungOf f A : Int) ≠ 0 ∨ (rungOf f B : Int) ≠ 0 → ff_div.j0 (k + 2) A B (negOf f A ^^ negOf f B) (rungOf f A) (rungOf f B) f.infRung false p q =
        some (resP p (((Ieee.Datum.number (negOf f A) (magOf f (rungOf f A)) (f.leastPlace + (plOf f (rungOf f A) : Nat))).quotient (f.fractionBits + 2) (f.read B)).map f.write)) := by
      intro nz
      simp only [ff_div.j0]
      rw [if_neg (by simp), if_neg ci]
      by_cases zb : (rungOf f B : Int) = 0
      · rw [beq_iff_eq.2 zb, j1t, read_num f B (by omega), (mag_zero f (rungOf f B)).2 (by omega)]
        have hm0 : magOf f (rungOf f A) ≠ 0 := fun e => by have := (mag_zero f _).1 e; omega
        simp only [Ieee.Datum.quotient]
        rw [if_pos True.intro, if_neg hm0]
        rfl
      · rw [beq_eq_false_iff_ne.2 zb]
        simp only [ff_div.j1]
        rw [if_neg (by simp)]
        by_cases cj : (rungOf f B : Int) = (f.infRung : Int)
        · rw [if_pos cj, wz, read_inf f B hb (by omega)]
          simp only [Ieee.Datum.quotient, Option.map_some, Option.bind_some]
          show _ = some (resP p (some (f.nearest _ 0 0)))
          rw [nearest_zero]
        · rw [if_neg cj, read_num f B (by omega)]
          have hn0 : magOf f (rungOf f B) ≠ 0 := fun e => by have := (mag_zero f _).1 e; omega
          by_cases za : (rungOf f A : Int) = 0
          · rw [if_pos za, wz, (mag_zero f (rungOf f A)).2 (by omega)]
            simp only [Ieee.Datum.quotient, Option.bind_some]
            rw [if_neg hn0]
            simp only [Nat.shiftLeft_eq, Nat.zero_mul, Nat.zero_div, Nat.zero_mod, Option.map_some]
            show _ = some (resP p (some (f.nearest _ 0 _)))
            rw [nearest_zero]
          · rw [if_neg za, c_parts h A hA', c_parts h B hB']
            simp only [Option.bind_some]
            have hm0 : magOf f (rungOf f A) ≠ 0 := fun e => by have := (mag_zero f _).1 e; omega
            have mA := mag_lt f (rungOf f A); have mB := mag_lt f (rungOf f B)
            have pl : ∀ r, r ≤ f.infRung → plOf f r ≤ 4096 := by
              intro r hr
              unfold plOf
              have : 2 ^ f.exponentBits ≤ 2 ^ 11 := Nat.pow_le_pow_right (by decide) w5
              have := Nat.mul_le_mul_right f.binade this
              have hlt : r < 4096 * f.binade := by omega
              have : r / f.binade < 4096 := (Nat.div_lt_iff_lt_mul (pw_pos f.fractionBits)).2 hlt
              omega
            have pA := pl _ iA
            have pB := pl _ iB
            generalize plOf f (rungOf f A) = a at *
            generalize plOf f (rungOf f B) = b at *
            generalize magOf f (rungOf f A) = m at *
            generalize magOf f (rungOf f B) = n at *
            have lg : ∀ z : Nat, z ≠ 0 → z < 2 * f.binade → z.log2 ≤ 52 ∧ 9223372036854775808 ≤ z * 2 ^ (63 - z.log2) ∧ z * 2 ^ (63 - z.log2) < 18446744073709551616 := by
              intro z h0 hl
              have hz : z.log2 ≤ 52 := by have := (Nat.log2_lt (n := z) (k := 53) h0).2 (by show z < 2 ^ 53; omega); omega
              have a1 : 2 ^ z.log2 * 2 ^ (63 - z.log2) ≤ z * 2 ^ (63 - z.log2) := Nat.mul_le_mul_right _ (Nat.log2_self_le h0)
              have a2 : z * 2 ^ (63 - z.log2) < 2 ^ (z.log2 + 1) * 2 ^ (63 - z.log2) := Nat.mul_lt_mul_of_pos_right Nat.lt_log2_self (pw_pos _)
              rw [← Nat.pow_add, show z.log2 + (63 - z.log2) = 63 from by omega] at a1
              rw [← Nat.pow_add, show z.log2 + 1 + (63 - z.log2) = 64 from by omega] at a2
              exact ⟨hz, a1, a2⟩
            obtain ⟨l1, l2, l3⟩ := lg m hm0 mA
            obtain ⟨l4, l5, l6⟩ := lg n hn0 mB
            rw [c_lz m (by omega) hm0, c_lz n (by omega) hn0]
            simp only [Option.bind_some]
            have e1 : IntKind.u64.wrap ((63 - m.log2 : Nat) : Int) = ((63 - m.log2 : Nat) : Int) := by rw [IntKind.wrap_u64]; omega
            have e2 : IntKind.u64.wrap ((63 - n.log2 : Nat) : Int) = ((63 - n.log2 : Nat) : Int) := by rw [IntKind.wrap_u64]; omega
            rw [e1, e2, if_pos (by omega), if_pos (by omega), shl_nat m _ l3 (by omega), shl_nat n _ l6 (by omega)]
            obtain ⟨u, hu⟩ : ∃ u, 63 - m.log2 = u + 1 := ⟨62 - m.log2, by omega⟩
            rw [hu] at l2 l3 ⊢
            have hX : m * 2 ^ (u + 1) = 2 * (m * 2 ^ u) := by
              rw [Nat.pow_succ]
              have : m * (2 ^ u * 2) = 2 * (m * 2 ^ u) := by ac_rfl
              exact this
            by_cases c : ((m * 2 ^ (u + 1) : Nat) : Int) ≥ ((n * 2 ^ (63 - n.log2) : Nat) : Int)
            · rw [if_pos c]
              rw [show ((m * 2 ^ (u + 1) : Nat) : Int) / 2 = ((m * 2 ^ u : Nat) : Int) from by omega]
              exact c_div_core h _ m n u (63 - n.log2) _ _ hm0 hn0 mA (by omega) (by omega) l5 l6 (by omega) (by omega) _ (by unfold wrap64; omega) k (by omega) _ _ rfl
            · rw [if_neg c]
              exact c_div_core h _ m n (u + 1) (63 - n.log2) _ _ hm0 hn0 mA (by omega) (by omega) l5 l6 (by omega) (by omega) _ (by unfold wrap64; omega) k (by omega) _ _ rfl
    by_cases za : (rungOf f A : Int) = 0
    · rw [if_pos za]
      by_cases zb : (rungOf f B : Int) = 0
      · rw [beq_iff_eq.2 zb, j0t, read_num f B (by omega), (mag_zero f (rungOf f A)).2 (by omega), (mag_zero f (rungOf f B)).2 (by omega)]
        rfl
      · rw [beq_eq_false_iff_ne.2 zb]; exact main (.inr zb)
    · rw [if_neg za]; exact main (.inl za)
theorem or_zero (x y : Nat) (hx : x < 18446744073709551616) (hy : y < 18446744073709551616) : Go.bits .or .u64 (x : Int) (y : Int) = 0 ↔ x = 0 ∧ y = 0 := by
  rw [or_nat x y hx hy]
  constructor
  · intro h
    have h2 : x ||| y = 0 := by omega
    have h3 : x ≤ x ||| y := Nat.left_le_or
    have h4 : y ≤ x ||| y := Nat.right_le_or
    omega
  · rintro ⟨rfl, rfl⟩; rfl
theorem c_less {p q f} (h : Pq p q f) (A B : Nat) (hA : A < 18446744073709551616) (hB : B < 18446744073709551616) : ff_less.f p q A B = some (lessF f A B) := by
  obtain ⟨w1, w2, w3, w4, w5, w6, w7, w8, w9, w10, w11, w12⟩ := c_w h
  have rA : rungOf f A < f.signWeight := Nat.mod_lt _ (pw_pos _)
  have rB : rungOf f B < f.signWeight := Nat.mod_lt _ (pw_pos _)
  unfold ff_less.f lessF
  rw [c_size h A hA, c_size h B hB, c_neg h A hA, c_neg h B hB]
  simp only [Option.bind_some]
  by_cases z : rungOf f A = 0 ∧ rungOf f B = 0
  · rw [if_pos ((or_zero _ _ (by omega) (by omega)).2 z), if_pos z]
  · rw [if_neg (fun x => z ((or_zero _ _ (by omega) (by omega)).1 x)), if_neg z]
    cases negOf f A <;> cases negOf f B <;> simp only [bne_self_eq_false, Bool.false_eq_true, if_false, if_true, ne_eq, not_true_eq_false, not_false_eq_true, reduceCtorEq, Bool.true_bne, Bool.false_bne, Bool.not_true, Bool.not_false]
    · refine congrArg some ?_
      rw [decide_eq_decide]; omega
    · refine congrArg some ?_
      rw [decide_eq_decide]; omega
/-- Words of a format, cut to it. -/
theorem and_nat (x y : Nat) (hx : x < 18446744073709551616) (hy : y < 18446744073709551616) : Go.bits .and .u64 (x : Int) (y : Int) = ((x &&& y : Nat) : Int) := by
  unfold Go.bits
  have hb : IntKind.bits .u64 = 64 := rfl
  simp only
  rw [IntKind.wrap_u64, BitVec.toNat_and, BitVec.ofInt_natCast, BitVec.ofInt_natCast, BitVec.toNat_ofNat, BitVec.toNat_ofNat, hb,
    Nat.mod_eq_of_lt (show x < 2 ^ 64 from hx), Nat.mod_eq_of_lt (show y < 2 ^ 64 from hy)]
  have : x &&& y < 2 ^ 64 := Nat.lt_of_le_of_lt Nat.and_le_left hx
  omega
/-- The lesser, or the greater one. -/
theorem c_end {p q f} (h : Pq p q f) (most : Bool) (A B : Nat) (hA : A < 2 * f.signWeight) (hB : B < 2 * f.signWeight) :
    ff_end.f p q most A B = some ((if rungOf f A = 0 ∧ rungOf f B = 0 then (if most = negOf f A then B else A) else if lessF f A B = most then B else A : Nat) : Int) := by
  obtain ⟨w1, w2, w3, w4, w5, w6, w7, w8, w9, w10, w11, w12⟩ := c_w h
  have rA : rungOf f A < f.signWeight := Nat.mod_lt _ (pw_pos _)
  have rB : rungOf f B < f.signWeight := Nat.mod_lt _ (pw_pos _)
  unfold ff_end.f
  rw [c_size h A (by omega), c_size h B (by omega), c_less h A B (by omega) (by omega)]
  simp only [Option.bind_some]
  by_cases z : rungOf f A = 0 ∧ rungOf f B = 0
  · rw [if_pos ((or_zero _ _ (by omega) (by omega)).2 z), if_pos z]
    have eA := word_of f A hA
    have eB := word_of f B hB
    rw [z.1] at eA
    rw [z.2] at eB
    have w0 : f.word false 0 = 0 := rfl
    have w1 : f.word true 0 = f.signWeight := rfl
    rw [and_nat A B (by omega) (by omega), or_nat A B (by omega) (by omega)]
    cases nA : negOf f A <;> cases nB : negOf f B <;> rw [nA] at eA <;> rw [nB] at eB
    · rw [w0] at eA eB; subst eA; subst eB; cases most <;> rfl
    · rw [w0] at eA; rw [w1] at eB; rw [← eA, ← eB]
      cases most <;> simp
    · rw [w1] at eA; rw [w0] at eB; rw [← eA, ← eB]
      cases most <;> simp
    · rw [w1] at eA eB; rw [← eA, ← eB]
      cases most <;> simp
  · rw [if_neg (fun x => z ((or_zero _ _ (by omega) (by omega)).1 x)), if_neg z]
    by_cases c : lessF f A B = most
    · rw [if_pos (beq_iff_eq.2 c), if_pos c]
    · rw [if_neg (fun x => c (beq_iff_eq.1 x)), if_neg c]
end Go.Proofs.Ytjfmomogidgbpaa.Pure
namespace Go.Proofs.Ytjfmomogidgbpaa.Pure
set_option linter.unusedVariables false
set_option linter.unusedSimpArgs false
open Go.RowKit Go.Proofs.Ytjfmomogidgbpaa.PFl Go.Proofs.Ytjfmomogidgbpaa.Fl Go.Proofs.YtjfmomogidgbpaaW.PrintWords
/-- A size that is right, its format, and what is told of both. -/
structure Sz (n p q : Int) (f : Ieee.Format) : Prop where
  ok : n = 32 ∨ n = 64
  pq : Pq p q f
  of : floats_of.f n = some (p, q)
  fm : fmtOf n = f
  sg : sgnI n = (f.signWeight : Int)
  res : ∀ o, resP p o = resOf n o
  cut : ∀ a : Nat, a < 18446744073709551616 → a % (2 * f.signWeight) = wOf n (a : Int)
theorem sz (n : Int) (h : n = 32 ∨ n = 64) : ∃ p q f, Sz n p q f := by
  rcases h with rfl | rfl
  · refine ⟨23, 8, Ieee.single, .inl rfl, .inl ⟨rfl, rfl, rfl⟩, rfl, rfl, by decide +kernel, ?_, ?_⟩
    · intro o; cases o <;> rfl
    · intro a ha
      rw [s_sgn]
      show a % 4294967296 = ((a : Int) % 4294967296).toNat
      omega
  · refine ⟨52, 11, Ieee.double, .inr rfl, .inr ⟨rfl, rfl, rfl⟩, rfl, rfl, by decide +kernel, ?_, ?_⟩
    · intro o; cases o <;> rfl
    · intro a ha
      rw [d_sgn]
      show a % 18446744073709551616 = (a : Int).toNat
      omega
theorem Sz.lt {n p q f} (h : Sz n p q f) (a : Nat) (ha : a < 18446744073709551616) : wOf n (a : Int) < 2 * f.signWeight := by
  rw [← h.cut a ha]
  exact Nat.mod_lt _ (by have : 0 < f.signWeight := pw_pos _
                         omega)
theorem of_wrong (n : Int) (h : n ≠ 32) (h' : n ≠ 64) : floats_of.f n = some (0, 0) := by
  unfold floats_of.f; rw [if_neg h, if_neg h']
theorem none_wrong : ff_none.f 0 0 = some true := by decide +kernel
theorem Sz.none {n p q f} (h : Sz n p q f) : ff_none.f p q = some false := c_none h.pq
/-- The opposite's bits. -/
theorem xor_sign {p q f} (h : Pq p q f) (B : Nat) (hB : B < 2 * f.signWeight) :
    Go.bits .xor .u64 (B : Int) (f.signWeight : Int) = ((f.word (!negOf f B) (rungOf f B) : Nat) : Int) := by
  obtain ⟨k, hk, hk2, e⟩ := sgn_pow h
  obtain ⟨w1, w2, w3, w4, w5, w6, w7, w8, w9, w10, w11, w12⟩ := c_w h
  have rB : rungOf f B < f.signWeight := Nat.mod_lt _ (pw_pos _)
  have eB := word_of f B hB
  unfold Go.bits
  have hb : IntKind.bits .u64 = 64 := rfl
  have hs : f.signWeight < 2 ^ 64 := by omega
  have hBl : B < 2 ^ 64 := by omega
  simp only
  rw [IntKind.wrap_u64, BitVec.toNat_xor, BitVec.ofInt_natCast, BitVec.ofInt_natCast, BitVec.toNat_ofNat, BitVec.toNat_ofNat, hb, Nat.mod_eq_of_lt hBl, Nat.mod_eq_of_lt hs]
  have ex : B ^^^ f.signWeight = f.word (!negOf f B) (rungOf f B) := by
    rw [e] at rB ⊢
    have w0 : ∀ r, f.word false r = r := fun r => rfl
    have wt : ∀ r, f.word true r = 2 ^ k + r := fun r => by rw [← e]; rfl
    have o : ∀ r, r < 2 ^ k → r ^^^ 2 ^ k = 2 ^ k + r := by
      intro r hr
      have h1 := Nat.two_pow_add_eq_or_of_lt hr 1
      rw [Nat.mul_one] at h1
      rw [h1, Nat.xor_comm]
      apply Nat.eq_of_testBit_eq
      intro i
      rw [Nat.testBit_xor, Nat.testBit_or, Nat.testBit_two_pow]
      by_cases c : k = i
      · subst c
        rw [Nat.testBit_lt_two_pow hr]; simp
      · simp [c]
    cases hn : negOf f B
    · rw [hn, w0] at eB
      rw [← eB]
      show rungOf f B ^^^ 2 ^ k = f.word true _
      have : rungOf f (rungOf f B) = rungOf f B := by unfold rungOf; rw [Nat.mod_mod]
      rw [this, wt, o _ rB]
    · rw [hn, wt] at eB
      have : B ^^^ 2 ^ k = rungOf f B := by
        conv => lhs; rw [← eB]
        rw [← o _ rB, Nat.xor_assoc, Nat.xor_self, Nat.xor_zero]
      rw [this]; rfl
  rw [ex]
  have : f.word (!negOf f B) (rungOf f B) < 18446744073709551616 := by
    unfold Ieee.Format.word; split <;> omega
  omega
theorem read_opp {p q f} (h : Pq p q f) (B : Nat) (hB : B < 2 * f.signWeight) : f.read (f.word (!negOf f B) (rungOf f B)) = (f.read B).opposite := by
  obtain ⟨w1, w2, w3, w4, w5, w6, w7, w8, w9, w10, w11, w12⟩ := c_w h
  have hb := bin_ok h
  have rB : rungOf f B < f.signWeight := Nat.mod_lt _ (pw_pos _)
  have hr : rungOf f (f.word (!negOf f B) (rungOf f B)) = rungOf f B ∧ negOf f (f.word (!negOf f B) (rungOf f B)) = !negOf f B := by
    unfold Ieee.Format.word
    cases hn : negOf f B
    · simp only [Bool.not_false, if_true]
      have : f.signWeight + rungOf f B = f.signWeight * 1 + rungOf f B := by rw [Nat.mul_one]
      constructor
      · unfold rungOf at *
        rw [Nat.add_mod_left, Nat.mod_mod]
      · show ((f.signWeight + rungOf f B) / f.signWeight % 2 == 1) = true
        rw [this, Nat.mul_add_div (show 0 < f.signWeight from pw_pos _), Nat.div_eq_of_lt rB]; rfl
    · simp only [Bool.not_true, Bool.false_eq_true, if_false]
      constructor
      · unfold rungOf; rw [Nat.mod_mod]
      · show (rungOf f B / f.signWeight % 2 == 1) = false
        rw [Nat.div_eq_of_lt rB]; rfl
  by_cases c : rungOf f B < f.infRung
  · rw [read_num f _ (by rw [hr.1]; exact c), read_num f B c, hr.1, hr.2]; rfl
  · by_cases d : rungOf f B = f.infRung
    · rw [read_inf f _ hb (by rw [hr.1]; exact d), read_inf f B hb d, hr.2]; rfl
    · rw [read_nan f _ hb (by rw [hr.1]; omega), read_nan f B hb (by omega), hr.1, hr.2]; rfl
/-- A difference is the sum with the opposite. -/
theorem c_sub {p q f} (h : Pq p q f) (A B : Nat) (hA : A < 2 * f.signWeight) (hB : B < 2 * f.signWeight) (iA : rungOf f A ≤ f.infRung) (iB : rungOf f B ≤ f.infRung) (k : Nat) :
    ff_add.f (k + 4) p q A (Go.bits .xor .u64 (B : Int) (f.signWeight : Int)) = some (resP p (f.sub A B)) := by
  obtain ⟨w1, w2, w3, w4, w5, w6, w7, w8, w9, w10, w11, w12⟩ := c_w h
  have hw := word_rung f (!negOf f B) (rungOf f B) iB
  rw [xor_sign h B hB, c_add h A _ hA (by unfold Ieee.Format.word; split <;> omega) iA (by rw [hw.1]; exact iB) k]
  unfold Ieee.Format.add Ieee.Format.sub
  rw [read_opp h B hB]
theorem c_add' {p q f} (h : Pq p q f) (A B : Nat) (hA : A < 2 * f.signWeight) (hB : B < 2 * f.signWeight) (iA : rungOf f A ≤ f.infRung) (iB : rungOf f B ≤ f.infRung) (k : Nat) (hk : 4 ≤ k) :
    ff_add.f k p q A B = some (resP p (f.add A B)) := by
  obtain ⟨k, rfl⟩ : ∃ m, k = m + 4 := ⟨k - 4, by omega⟩
  exact c_add h A B hA hB iA iB k
theorem c_mul' {p q f} (h : Pq p q f) (A B : Nat) (hA : A < 2 * f.signWeight) (hB : B < 2 * f.signWeight) (iA : rungOf f A ≤ f.infRung) (iB : rungOf f B ≤ f.infRung) (k : Nat) (hk : 4 ≤ k) :
    ff_mul.f k p q A B = some (resP p (f.mul A B)) := by
  obtain ⟨k, rfl⟩ : ∃ m, k = m + 4 := ⟨k - 4, by omega⟩
  exact c_mul h A B hA hB iA iB k
theorem c_sub' {p q f} (h : Pq p q f) (A B : Nat) (hA : A < 2 * f.signWeight) (hB : B < 2 * f.signWeight) (iA : rungOf f A ≤ f.infRung) (iB : rungOf f B ≤ f.infRung) (k : Nat) (hk : 4 ≤ k) :
    ff_add.f k p q A (Go.bits .xor .u64 (B : Int) (f.signWeight : Int)) = some (resP p (f.sub A B)) := by
  obtain ⟨k, rfl⟩ : ∃ m, k = m + 4 := ⟨k - 4, by omega⟩
  exact c_sub h A B hA hB iA iB k
theorem Sz.neg_le {n p q f} (h : Sz n p q f) (A : Nat) (hA : A < 2 * f.signWeight) : negOf f A = true ↔ sgnI n ≤ (A : Int) := by
  rw [h.sg]
  have hs : 0 < f.signWeight := pw_pos _
  unfold negOf
  rw [beq_iff_eq]
  by_cases c : A < f.signWeight
  · rw [Nat.div_eq_of_lt c]; omega
  · have h1 : A / f.signWeight = 1 := (Nat.div_eq_iff hs).2 ⟨by omega, by omega⟩
    rw [h1]; omega
theorem c_Bin (n op : Int) (a b : Nat) (ha : a < 18446744073709551616) (hb : b < 18446744073709551616) (k : Nat) (hk : 40 ≤ k) : floats_Bin.f k n op a b = some (binF n op a b) := by
  obtain ⟨k, rfl⟩ : ∃ m, k = m + 3 := ⟨k - 3, by omega⟩
  have bad : floats_Bin.j0 (k + 3) op a b true 0 0 = some (0, 1) := by
    simp only [floats_Bin.j0]; rw [if_pos True.intro]
  by_cases hn : n = 32 ∨ n = 64
  · obtain ⟨p, q, f, S⟩ := sz n hn
    have hpq := S.pq
    obtain ⟨w1, w2, w3, w4, w5, w6, w7, w8, w9, w10, w11, w12⟩ := c_w hpq
    unfold floats_Bin.f
    rw [S.of]
    simp only [Option.bind_some]
    rw [S.none]
    simp only [Option.bind_some]
    rw [if_neg (by decide)]
    have bad : floats_Bin.j0 (k + 3) op a b true p q = some (0, 1) := by
      simp only [floats_Bin.j0]; rw [if_pos True.intro]
    by_cases o1 : op < 1
    · rw [if_pos o1, bad]
      unfold binF; rw [if_pos (by omega)]
    · rw [if_neg o1]
      by_cases o9 : op > 9
      · rw [decide_eq_true o9, bad]
        unfold binF; rw [if_pos (by omega)]
      · rw [decide_eq_false o9]
        have hr : ¬ ((n ≠ 32 ∧ n ≠ 64) ∨ op < 1 ∨ 9 < op) := by omega
        have hA := S.lt a ha; have hB := S.lt b hb
        have cA := S.cut a ha; have cB := S.cut b hb
        simp only [floats_Bin.j0]
        rw [if_neg (by simp), c_cut hpq a ha, c_cut hpq b hb, cA, cB]
        simp only [Option.bind_some]
        unfold binF
        rw [if_neg hr]
        simp only
        unfold ordOf
        rw [S.fm]
        have sgA := S.neg_le _ hA; have sgB := S.neg_le _ hB
        have sgI := S.sg
        have res := S.res
        generalize wOf n (a : Int) = A at *
        generalize wOf n (b : Int) = B at *
        have hA' : A < 18446744073709551616 := by omega
        have hB' : B < 18446744073709551616 := by omega
        rw [c_isNaN hpq A hA', c_isNaN hpq B hB']
        simp only [Option.bind_some]
        have bi := bin_ok hpq
        have j1 : floats_Bin.j1 (k + 2) op A B (nanW f A || nanW f B) p q = some (if op = 7 then ((A : Int) % sgnI n + B - B % sgnI n, 0) else
            if op = 8 then (if f.order B A = some .lt then (B : Int) else A, 0) else
            if op = 9 then (if f.order A B = some .lt then (B : Int) else A, 0) else
            if nanW f A || nanW f B then (canon n, 0) else
            if op = 5 ∨ op = 6 then (if rungOf f A = 0 ∧ rungOf f B = 0 then (if (op = 5 ↔ sgnI n ≤ (A : Int)) then (A : Int) else B) else if (f.order A B = some .lt ↔ op = 5) then (A : Int) else B, 0) else
            if op = 1 then (resOf n (f.add A B), 0) else if op = 2 then (resOf n (f.sub A B), 0) else if op = 3 then (resOf n (f.mul A B), 0) else (resOf n (f.div A B), 0)) := by
          simp only [floats_Bin.j1]
          by_cases o7 : op = 7
          · rw [if_pos o7, if_pos o7, c_neg hpq B hB', c_size hpq A hA']
            simp only [Option.bind_some]
            rw [c_signed hpq (negOf f B) (rungOf f A) (Nat.mod_lt _ (pw_pos _))]
            simp only [Option.bind_some]
            refine congrArg some (Prod.ext ?_ rfl)
            show ((f.word (negOf f B) (rungOf f A) : Nat) : Int) = (A : Int) % sgnI n + B - B % sgnI n
            rw [sgI]
            have eB := word_of f B hB
            have e1 : ((rungOf f A : Nat) : Int) = (A : Int) % (f.signWeight : Int) := by unfold rungOf; exact Int.natCast_emod ..
            have e2 : ((rungOf f B : Nat) : Int) = (B : Int) % (f.signWeight : Int) := by unfold rungOf; exact Int.natCast_emod ..
            rw [← e1, ← e2]
            unfold Ieee.Format.word at eB ⊢
            split at eB
            · rename_i hnb; rw [if_pos hnb]; omega
            · rename_i hnb; rw [if_neg hnb]; omega
          rw [if_neg o7, if_neg o7]
          have ltF : ∀ X Y : Nat, nanW f X = false → nanW f Y = false → (f.order X Y = some .lt ↔ lessF f X Y = true) := by
            intro X Y hX hY
            have h1 : ¬ f.infRung < rungOf f X := of_decide_eq_false hX
            have h2 : ¬ f.infRung < rungOf f Y := of_decide_eq_false hY
            rw [← lessF_order f X Y bi (by omega) (by omega), beq_iff_eq]
          have nanF : ∀ X Y : Nat, (nanW f X || nanW f Y) = true → f.order X Y = none := by
            intro X Y hXY
            rw [Bool.or_eq_true] at hXY
            exact order_nan f X Y bi (hXY.imp (fun x => of_decide_eq_true x) (fun x => of_decide_eq_true x))
          by_cases o8 : op = 8
          · rw [if_pos o8, if_pos o8]
            cases hN : (nanW f A || nanW f B)
            · rw [if_neg (by decide), c_less hpq B A hB' hA']
              simp only [Option.bind_some]
              rw [Bool.or_eq_false_iff] at hN
              by_cases c : lessF f B A = true
              · rw [if_pos c, if_pos ((ltF B A hN.2 hN.1).2 c)]
              · rw [if_neg c, if_neg (fun x => c ((ltF B A hN.2 hN.1).1 x))]
            · rw [if_pos rfl, nanF B A (by rw [Bool.or_comm]; exact hN), if_neg (by decide)]
          rw [if_neg o8, if_neg o8]
          by_cases o9 : op = 9
          · rw [if_pos o9, if_pos o9]
            cases hN : (nanW f A || nanW f B)
            · rw [if_neg (by decide), c_less hpq A B hA' hB']
              simp only [Option.bind_some]
              rw [Bool.or_eq_false_iff] at hN
              by_cases c : lessF f A B = true
              · rw [if_pos c, if_pos ((ltF A B hN.1 hN.2).2 c)]
              · rw [if_neg c, if_neg (fun x => c ((ltF A B hN.1 hN.2).1 x))]
            · rw [if_pos rfl, nanF A B hN, if_neg (by decide)]
          rw [if_neg o9, if_neg o9]
          cases hN : (nanW f A || nanW f B)
          · rw [if_neg (show ¬ (false = true) by decide), if_neg (show ¬ (false = true) by decide)]
            rw [Bool.or_eq_false_iff] at hN
            have iA : rungOf f A ≤ f.infRung := by have : ¬ f.infRung < rungOf f A := of_decide_eq_false hN.1; omega
            have iB : rungOf f B ≤ f.infRung := by have : ¬ f.infRung < rungOf f B := of_decide_eq_false hN.2; omega
            by_cases o56 : op = 5 ∨ op = 6
            · rw [if_pos o56, if_neg (by omega), if_neg (by omega), if_neg (by omega), if_neg (by omega), c_end hpq (op == 6) A B hA hB]
              simp only [Option.bind_some]
              refine congrArg some (Prod.ext ?_ rfl)
              have lt := ltF A B hN.1 hN.2
              rcases o56 with rfl | rfl
              · show (((if rungOf f A = 0 ∧ rungOf f B = 0 then (if false = negOf f A then B else A) else if lessF f A B = false then B else A : Nat)) : Int) = _
                by_cases z : rungOf f A = 0 ∧ rungOf f B = 0
                · rw [if_pos z, if_pos z]
                  cases hs : negOf f A
                  · rw [if_pos rfl, if_neg (fun x => by have := sgA.2 (x.1 rfl); rw [hs] at this; cases this)]
                  · rw [if_neg (by decide), if_pos ⟨fun _ => sgA.1 hs, fun _ => rfl⟩]
                · rw [if_neg z, if_neg z]
                  cases hs : lessF f A B
                  · rw [if_pos rfl, if_neg (fun x => by have := lt.1 (x.2 rfl); rw [hs] at this; cases this)]
                  · rw [if_neg (by decide), if_pos ⟨fun _ => rfl, fun _ => lt.2 hs⟩]
              · show (((if rungOf f A = 0 ∧ rungOf f B = 0 then (if true = negOf f A then B else A) else if lessF f A B = true then B else A : Nat)) : Int) = _
                by_cases z : rungOf f A = 0 ∧ rungOf f B = 0
                · rw [if_pos z, if_pos z]
                  cases hs : negOf f A
                  · rw [if_neg (by decide), if_pos ⟨fun x => absurd x (by decide), (fun x => by have := sgA.2 x; rw [hs] at this; cases this)⟩]
                  · rw [if_pos rfl, if_neg (fun x => absurd (x.2 (sgA.1 hs)) (by decide))]
                · rw [if_neg z, if_neg z]
                  cases hs : lessF f A B
                  · rw [if_neg (by decide), if_pos ⟨(fun x => by have := lt.1 x; rw [hs] at this; cases this), fun x => absurd x (by decide)⟩]
                  · rw [if_pos rfl, if_neg (fun x => absurd (x.1 (lt.2 hs)) (by decide))]
            · rw [if_neg o56]
              by_cases o2 : op = 2
              · rw [if_pos o2, if_neg (by omega), if_pos o2, c_sign hpq]
                simp only [Option.bind_some, floats_Bin.j2]
                rw [c_sub' hpq A B hA hB iA iB _ (by omega)]
                simp only [Option.bind_some]
                rw [res]
              · rw [if_neg o2]
                by_cases o1 : op = 1
                · rw [if_pos o1, if_pos o1]
                  simp only [floats_Bin.j2]
                  rw [c_add' hpq A B hA hB iA iB _ (by omega)]
                  simp only [Option.bind_some]
                  rw [res]
                · rw [if_neg o1, if_neg o1, if_neg o2]
                  by_cases o3 : op = 3
                  · rw [if_pos o3, if_pos o3]
                    rw [c_mul' hpq A B hA hB iA iB _ (by omega)]
                    simp only [Option.bind_some]
                    rw [res]
                  · rw [if_neg o3, if_neg o3, if_pos (by omega), c_div hpq A B hA hB iA iB (k + 1) (by omega)]
                    simp only [Option.bind_some]
                    rw [res]
          · rw [if_pos (show true = true from rfl), if_pos (show true = true from rfl), c_nanv hpq]
            simp only [Option.bind_some]
            rw [res]
            rfl
        cases hN : nanW f A
        · rw [if_neg (by decide)]
          rw [hN, Bool.false_or] at j1
          rw [Bool.false_or]
          exact j1
        · rw [if_pos rfl]
          rw [hN, Bool.true_or] at j1
          rw [Bool.true_or]
          exact j1
  · unfold floats_Bin.f
    rw [of_wrong n (by omega) (by omega)]
    simp only [Option.bind_some]
    rw [none_wrong]
    simp only [Option.bind_some]
    rw [if_pos True.intro, bad]
    unfold binF
    rw [if_pos (by omega)]
end Go.Proofs.Ytjfmomogidgbpaa.Pure
namespace Go.Proofs.Ytjfmomogidgbpaa.Pure
set_option linter.unusedVariables false
set_option linter.unusedSimpArgs false
open Go.RowKit Go.Proofs.Ytjfmomogidgbpaa.PFl Go.Proofs.Ytjfmomogidgbpaa.Fl Go.Proofs.YtjfmomogidgbpaaW.PrintWords
set_option maxRecDepth 100000 in
theorem awake_ok : bl_awake.f 100 = some true := by decide +kernel
theorem ref_Bin (n op : Int) (a b : Nat) (ha : a < 18446744073709551616) (hb : b < 18446744073709551616) : br_Bin.f n op a b = some (binF n op a b) := by
  unfold br_Bin.f
  rw [if_pos (by omega)]
end Go.Proofs.Ytjfmomogidgbpaa.Pure
namespace Go.Proofs.Ytjfmomogidgbpaa.Pure
set_option linter.unusedVariables false
set_option linter.unusedSimpArgs false
open Go.RowKit Go.Proofs.Ytjfmomogidgbpaa.PFl Go.Proofs.Ytjfmomogidgbpaa.Fl Go.Proofs.YtjfmomogidgbpaaW.PrintWords
theorem Sz.same {n p q f} (h : Sz n p q f) (a : Nat) (ha : a < 18446744073709551616) : rungOf f a = rungOf f (wOf n (a : Int)) ∧ negOf f a = negOf f (wOf n (a : Int)) := by
  rw [← h.cut a ha]
  have hs : 0 < f.signWeight := pw_pos _
  have hd := Nat.div_add_mod a (2 * f.signWeight)
  have hm := Nat.mod_lt a (show 0 < 2 * f.signWeight by omega)
  generalize hq : a / (2 * f.signWeight) = x at *
  generalize hr : a % (2 * f.signWeight) = r at *
  have e : a = f.signWeight * (2 * x) + r := by rw [← hd]; have : 2 * f.signWeight * x = f.signWeight * (2 * x) := by ac_rfl
                                                omega
  constructor
  · unfold rungOf; rw [e, Nat.mul_add_mod]
  · unfold negOf
    rw [e, Nat.mul_add_div hs]
    have : (2 * x + r / f.signWeight) % 2 = r / f.signWeight % 2 := by omega
    rw [this]
theorem c_Kind (n : Int) (a : Nat) (ha : a < 18446744073709551616) : floats_Kind.f n a = some (kindF n a) := by
  by_cases hn : n = 32 ∨ n = 64
  · obtain ⟨p, q, f, S⟩ := sz n hn
    unfold floats_Kind.f kindF
    rw [S.of, if_neg (by omega), S.fm]
    simp only [Option.bind_some]
    rw [c_size S.pq a ha, S.none, c_inf S.pq, (S.same a ha).1]
    simp only [Option.bind_some]
    rw [if_neg (by decide)]
    unfold nanW
    generalize rungOf f (wOf n (a : Int)) = r
    by_cases z : r = 0
    · rw [if_pos (by omega), if_pos z]
    · rw [if_neg (by omega), if_neg z]
      by_cases l : r < f.infRung
      · rw [if_pos (by omega), if_neg (by rw [decide_eq_false (by omega)]; decide), if_neg (by omega)]
      · rw [if_neg (by omega)]
        by_cases e : r = f.infRung
        · rw [if_pos (by omega), if_neg (by rw [decide_eq_false (by omega)]; decide), if_pos e]
        · rw [if_neg (by omega), if_pos (decide_eq_true (by omega))]
  · unfold floats_Kind.f kindF
    rw [of_wrong n (by omega) (by omega), if_pos (by omega)]
    simp only [Option.bind_some]
    have : ∃ s, ff_size.f 0 0 (a : Int) = some s := by
      unfold ff_size.f ff_sign.f
      rw [if_pos (by rw [IntKind.wrap_u64]; omega)]
      exact ⟨_, rfl⟩
    obtain ⟨s, hs⟩ := this
    rw [hs, none_wrong]
    simp only [Option.bind_some]
    rw [if_pos True.intro]
theorem c_Canonical (n : Int) : floats_Canonical.f n = some (if n = 32 ∨ n = 64 then canon n else 0) := by
  by_cases hn : n = 32 ∨ n = 64
  · obtain ⟨p, q, f, S⟩ := sz n hn
    unfold floats_Canonical.f
    rw [S.of, if_pos hn]
    simp only [Option.bind_some]
    rw [S.none]
    simp only [Option.bind_some]
    rw [if_neg (by decide), c_nanv S.pq, S.res none]
    rfl
  · unfold floats_Canonical.f
    rw [of_wrong n (by omega) (by omega), if_neg hn]
    simp only [Option.bind_some]
    rw [none_wrong]
    simp only [Option.bind_some]
    rw [if_pos True.intro]
end Go.Proofs.Ytjfmomogidgbpaa.Pure
namespace Go.Proofs.Ytjfmomogidgbpaa.Pure
set_option linter.unusedVariables false
set_option linter.unusedSimpArgs false
open Go.RowKit Go.Proofs.Ytjfmomogidgbpaa.PFl Go.Proofs.Ytjfmomogidgbpaa.PFm Go.Proofs.Ytjfmomogidgbpaa.Fl Go.Proofs.YtjfmomogidgbpaaW.PrintWords Go.Proofs.YtjfmomogidgbpaaW.PrintLast
theorem ref_Canonical (n : Int) : br_Canonical.f n = some (if n = 32 ∨ n = 64 then canon n else 0) := by
  unfold br_Canonical.f canon
  by_cases h : n = 32
  · rw [if_pos h, if_pos (.inl h), if_pos h]
  · rw [if_neg h]
    by_cases h' : n = 64
    · rw [if_pos h', if_pos (.inr h'), if_neg h]
    · rw [if_neg h', if_neg (by omega)]
theorem FloatsBin : bl_FloatsBin.Pure := by
  intro n op a0 a1 _ _ h0 h1
  have h0 := bounds_u64 h0
  have h1 := bounds_u64 h1
  obtain ⟨a, rfl⟩ := Int.eq_ofNat_of_zero_le h0.1
  obtain ⟨b, rfl⟩ := Int.eq_ofNat_of_zero_le h1.1
  have ha : a < 18446744073709551616 := by omega
  have hb : b < 18446744073709551616 := by omega
  refine ⟨100, ?_⟩
  unfold bl_FloatsBin.f
  rw [awake_ok]
  simp only [Option.bind_some]
  have rk : br_Kind.f n (a : Int) = some (kindF n a) := by
    rfl
  rw [if_pos True.intro, c_Bin n op a b ha hb 100 (by decide), ref_Bin n op a b ha hb, c_Kind n a ha, rk, c_Canonical n]
  simp only [Option.bind_some]
  rw [if_pos True.intro, if_pos True.intro, if_pos True.intro, ref_Canonical n]
  simp only [Option.bind_some]
  rw [beq_self_eq_true]
end Go.Proofs.Ytjfmomogidgbpaa.Pure
