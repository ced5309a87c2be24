/-
  The plain law of what one number comes to (IntsOne): the program's and the reference's answers in one closed form. For numbers of 64 bits.
-/
import Derived.Test.YtajmjmnlapplaaaDoorPInox2
import Derived.Test.YtajmjmnlapplaaaDoorPureIntsRound
import Derived.Lib.TrailingZeros
namespace Go.Proofs.YtajmjmnlapplaaaDoor.Pure
set_option linter.unusedVariables false
set_option linter.unusedSimpArgs false
open Go.RowKit Go.Proofs.YtajmjmnlapplaaaDoor.PInts Go.Proofs.YtajmjmnlapplaaaDoor.PIno Go.Proofs.YtajmjmnlapplaaaDoorW.PrintWords Go.Proofs.YtajmjmnlapplaaaDoorW.PrintLast Go.Proofs.YtajmjmnlapplaaaDoorW.PrintMore

/-- The size of a part of a number. -/
def exW (op : Int) : Int := if op = 4 then 8 else if op = 5 then 16 else 32
/-- What one number comes to. -/
def unI (n op A : Int) : Int × Int :=
  if op = 1 then (n - (Lib.bitLen A.toNat : Int), 0) else
  if op = 2 then (min (Lib.ctz 64 A.toNat : Int) n, 0) else
  if op = 3 then ((pc 64 A.toNat : Int), 0) else
  if op = 7 then (if sg n A ≥ 0 then A else (-A) % pw n, 0) else
  if op = 8 then ((-A) % pw n, 0) else
  if exW op ≥ n then (0, 1) else (sg (exW op) (A % pw (exW op)) % pw n, 0)

section
variable (n a : Int) (h : R n) (a0 : 0 ≤ a) (a1 : a < 18446744073709551616)
include h a0 a1
theorem un_clz (op : Int) (ho : op = 1) (k : Nat) : ints_Un.f (k + 1) n op a = some (n - (Lib.bitLen (a % pw n).toNat : Int), 0) := by
  have ca := cut_bounds n a; have hp := pw_pos n
  have hn : 8 ≤ n ∧ n ≤ 64 := by unfold R at h; omega
  have hl : Lib.bitLen (a % pw n).toNat ≤ n.toNat := Lib.bitLen_le _ _ (by omega) (by
    have := pw_nat n h
    omega)
  have o : bits_Len64.f (a % pw n) = some (Lib.bitLen (a % pw n).toNat : Int) := by unfold bits_Len64.f; rw [if_pos ⟨ca.1, by omega⟩]
  generalize Lib.bitLen (a % pw n).toNat = P at *
  have hw : IntKind.u64.wrap (wrap64 (n - (P : Int))) = n - (P : Int) := by
    rw [wr_i _ (by clear o; omega) (by clear o; omega)]
    exact wr_u _ (by clear o; omega) (by clear o; omega)
  unfold ints_Un.f
  rw [right_yes n h]
  simp only [Option.bind_some, if_true]
  rw [if_neg (by omega), show decide (op > 8) = false from decide_eq_false (by omega)]
  simp only [ints_Un.j0]
  rw [mask_ok n h]
  simp only [Option.bind_some, Bool.false_eq_true, if_false]
  rw [if_pos ho, and_mask n a h a0 a1, o]
  simp only [Option.bind_some]
  rw [hw]
omit h a0 a1 in
theorem exW_R (op : Int) : R (exW op) := by unfold exW R; split <;> (try split) <;> omega
theorem un_ext (op : Int) (ho : 4 ≤ op ∧ op ≤ 6) (k : Nat) : ints_Un.f (k + 1) n op a = some (if exW op ≥ n then (0, 1) else (sg (exW op) (a % pw n % pw (exW op)) % pw n, 0)) := by
  have ca := cut_bounds n a; have hp := pw_pos n
  have hs : shl .i64 8 (IntKind.u64.wrap (wrap64 (op - 4))) = exW op := by
    have : op = 4 ∨ op = 5 ∨ op = 6 := by omega
    rcases this with rfl | rfl | rfl <;> decide +kernel
  have hz : 0 ≤ IntKind.u64.wrap (wrap64 (op - 4)) := by rw [IntKind.wrap_u64]; omega
  have hR : R (exW op) := exW_R op
  have hg : ints_Signed.f (exW op) (a % pw n) = some (sg (exW op) (a % pw n % pw (exW op))) := signed_ok _ _ hR ca.1 (by omega)
  generalize exW op = E at *
  unfold ints_Un.f
  rw [right_yes n h]
  simp only [Option.bind_some, if_true]
  rw [if_neg (by omega), show decide (op > 8) = false from decide_eq_false (by omega)]
  simp only [ints_Un.j0]
  rw [mask_ok n h]
  simp only [Option.bind_some, Bool.false_eq_true, if_false]
  rw [if_neg (show ¬ op = 1 by omega), if_neg (show ¬ op = 2 by omega), if_neg (show ¬ op = 3 by omega), if_neg (show ¬ op = 7 by omega), if_neg (show ¬ op = 8 by omega), if_pos hz, and_mask n a h a0 a1, hs, hg]
  simp only [Option.bind_some]
  rw [wrap_cut n _ h]
  split <;> rfl
end

/-! ### The reference -/
def zs : List Int → Nat
  | [] => 0
  | b :: t => if b = 0 then 1 + zs t else 0
theorem zs_le (l : List Int) : zs l ≤ l.length := by
  induction l with
  | nil => exact Nat.le_refl _
  | cons b t ih => unfold zs; split <;> simp <;> omega
theorem rd_drop (l : List Int) (i : Nat) (h : i < l.length) : l.drop i = rd l (i : Int) :: l.drop (i + 1) := by
  rw [List.drop_eq_getElem_cons h]
  unfold rd
  rw [Int.toNat_natCast, List.getD_eq_getElem?_getD, List.getElem?_eq_getElem h]
  rfl
theorem l1_go (n : Nat) (l : List Int) (hl : l.length = n) (hn : n ≤ 64) (d : Nat) : ∀ (k c i : Nat), d < k → n - i = d → i ≤ n → c ≤ i → bodkinref02_Un.l1 k (n : Int) l (c : Int) (i : Int) = some (((c + zs (l.drop i) : Nat) : Int), 0) := by
  induction d with
  | zero =>
    intro k c i hk hd hi hc
    obtain ⟨k, rfl⟩ : ∃ m, k = m + 1 := ⟨k - 1, by omega⟩
    simp only [bodkinref02_Un.l1]
    rw [if_neg (by omega), List.drop_of_length_le (by omega)]
    rfl
  | succ d ih =>
    intro k c i hk hd hi hc
    obtain ⟨k, rfl⟩ : ∃ m, k = m + 1 := ⟨k - 1, by omega⟩
    simp only [bodkinref02_Un.l1]
    rw [if_pos (by omega), if_pos (by omega), if_pos (by omega), rd_drop l i (by omega)]
    by_cases hb : rd l (i : Int) = 0
    · rw [if_pos hb, wr_u _ (by omega) (by omega), wr_i _ (by omega) (by omega), show (c : Int) + 1 = ((c + 1 : Nat) : Int) from rfl, show (i : Int) + 1 = ((i + 1 : Nat) : Int) from rfl, ih k (c + 1) (i + 1) (by omega) (by omega) (by omega) (by omega)]
      simp only [zs]
      rw [if_pos hb, Nat.add_assoc]
    · rw [if_neg hb]
      simp only [zs]
      rw [if_neg hb, Nat.add_zero]
def lz (l : List Int) : Nat → Nat
  | 0 => 0
  | m + 1 => if rd l (m : Int) = 0 then 1 + lz l m else 0
theorem lz_le (l : List Int) (m : Nat) : lz l m ≤ m := by
  induction m with
  | zero => exact Nat.le_refl _
  | succ m ih => unfold lz; split <;> omega
theorem l0_go (l : List Int) (m : Nat) : ∀ (k c : Nat), m < k → m ≤ l.length → c + m ≤ 64 → bodkinref02_Un.l0 k l (c : Int) ((m : Int) - 1) = some (((c + lz l m : Nat) : Int), 0) := by
  induction m with
  | zero =>
    intro k c hk hl hc
    obtain ⟨k, rfl⟩ : ∃ m, k = m + 1 := ⟨k - 1, by omega⟩
    simp only [bodkinref02_Un.l0]
    rw [if_neg (by omega)]
    rfl
  | succ m ih =>
    intro k c hk hl hc
    obtain ⟨k, rfl⟩ : ∃ m, k = m + 1 := ⟨k - 1, by omega⟩
    simp only [bodkinref02_Un.l0]
    rw [show ((m + 1 : Nat) : Int) - 1 = (m : Int) by omega, if_pos (by omega), if_pos (by omega), if_pos (by omega)]
    by_cases hb : rd l (m : Int) = 0
    · rw [if_pos hb, wr_u _ (by omega) (by omega), wr_i _ (by omega) (by omega), show (c : Int) + 1 = ((c + 1 : Nat) : Int) from rfl, ih k (c + 1) (by omega) (by omega) (by omega)]
      simp only [lz]
      rw [if_pos hb, Nat.add_assoc]
    · rw [if_neg hb]
      simp only [lz]
      rw [if_neg hb, Nat.add_zero]
def su : List Int → Int
  | [] => 0
  | b :: t => b + su t
theorem su_range (l : List Int) : (∀ x ∈ l, 0 ≤ x ∧ x ≤ 1) → 0 ≤ su l ∧ su l ≤ l.length := by
  induction l with
  | nil => intro _; simp [su]
  | cons b t ih =>
    intro h
    have hb := h b (by simp)
    have ht := ih (fun x hx => h x (by simp [hx]))
    simp only [su, List.length_cons]
    omega
theorem l2_go (n : Nat) (l : List Int) (hl : l.length = n) (hn : n ≤ 64) (hb : ∀ x ∈ l, 0 ≤ x ∧ x ≤ 1) (d : Nat) : ∀ (k i : Nat) (c : Int), d < k → n - i = d → i ≤ n → 0 ≤ c → c ≤ i → bodkinref02_Un.l2 k (n : Int) l c (i : Int) = some (c + su (l.drop i), 0) := by
  induction d with
  | zero =>
    intro k i c hk hd hi hc0 hc
    obtain ⟨k, rfl⟩ : ∃ m, k = m + 1 := ⟨k - 1, by omega⟩
    simp only [bodkinref02_Un.l2]
    rw [if_neg (by omega), List.drop_of_length_le (by omega)]
    simp [su]
  | succ d ih =>
    intro k i c hk hd hi hc0 hc
    obtain ⟨k, rfl⟩ : ∃ m, k = m + 1 := ⟨k - 1, by omega⟩
    have hr := rd_drop l i (by omega)
    have hx := hb (rd l (i : Int)) (List.mem_of_mem_drop (i := i) (by rw [hr]; simp))
    simp only [bodkinref02_Un.l2]
    rw [if_pos (by omega), if_pos (by omega), if_pos (by omega), hr]
    rw [wr_u _ (by omega) (by omega), wr_i _ (by omega) (by omega), show (i : Int) + 1 = ((i + 1 : Nat) : Int) from rfl, ih k (i + 1) _ (by omega) (by omega) (by omega) (by omega) (by omega)]
    simp only [su]
    rw [Int.add_assoc]
theorem su_bl (d : Nat) : ∀ X : Nat, su (bl d (X : Int)) = (pc d X : Int) := by
  induction d with
  | zero => intro X; rfl
  | succ d ih =>
    intro X
    simp only [bl, su, pc]
    rw [show (X : Int) / 2 = ((X / 2 : Nat) : Int) from rfl, ih]
    push_cast
    rfl
theorem zs_bl (d : Nat) : ∀ (f X : Nat), X < 2 ^ f → zs (bl d (X : Int)) = if X = 0 then d else min (Lib.ctzFrom f X) d := by
  induction d with
  | zero => intro f X h; simp [bl, zs]
  | succ d ih =>
    intro f X h
    simp only [bl, zs]
    rw [show (X : Int) / 2 = ((X / 2 : Nat) : Int) from rfl]
    by_cases hz : X = 0
    · subst hz
      rw [if_pos (by decide), ih f _ (by simp; exact Nat.two_pow_pos f), if_pos (by decide), if_pos rfl]
      omega
    · rw [if_neg hz]
      obtain ⟨f, rfl⟩ : ∃ g, f = g + 1 := by
        cases f with
        | zero => simp at h; omega
        | succ g => exact ⟨g, rfl⟩
      unfold Lib.ctzFrom
      by_cases ho : X % 2 = 1
      · rw [if_neg (by omega), if_pos ho]
        omega
      · rw [if_pos (by omega), if_neg ho, ih f (X / 2) (by rw [Nat.pow_succ] at h; omega), if_neg (by omega)]
        omega
theorem bitLen_top (m y : Nat) (h1 : 2 ^ m ≤ y) (h2 : y < 2 ^ (m + 1)) (hm : m < 64) : Lib.bitLen y = m + 1 := by
  have hy : y < 2 ^ 64 := Nat.lt_of_lt_of_le h2 (Nat.pow_le_pow_right (by decide) (by omega))
  rw [Lib.bitLen_shift m y h1 hy]
  have : y / 2 ^ m = 1 := by
    rw [Nat.pow_succ] at h2
    exact Nat.div_eq_of_lt_le (by omega) (by omega)
  rw [this]
  rfl
theorem lz_bl (X d m : Nat) (hm : m ≤ d) (hd : d ≤ 64) : lz (bl d (X : Int)) m = m - Lib.bitLen (X % 2 ^ m) := by
  induction m with
  | zero => simp [lz]
  | succ m ih =>
    have hb : rd (bl d (X : Int)) (m : Int) = bitAt (X : Int) m := bl_get d _ m (by omega)
    have hbit : bitAt (X : Int) m = ((X / 2 ^ m % 2 : Nat) : Int) := by unfold bitAt; push_cast; rfl
    have hle : Lib.bitLen (X % 2 ^ m) ≤ m := Lib.bitLen_le _ _ (by omega) (Nat.mod_lt _ (Nat.two_pow_pos m))
    have hs : X % 2 ^ (m + 1) = X % 2 ^ m + 2 ^ m * (X / 2 ^ m % 2) := by rw [Nat.pow_succ, Nat.mod_mul]
    have hlt := Nat.mod_lt X (Nat.two_pow_pos m)
    unfold lz
    rw [hb, hbit]
    by_cases h0 : X / 2 ^ m % 2 = 0
    · have hs : X % 2 ^ (m + 1) = X % 2 ^ m := by rw [hs, h0, Nat.mul_zero]; rfl
      rw [if_pos (by omega), ih (by omega), hs]
      omega
    · have h1 : X / 2 ^ m % 2 = 1 := by omega
      rw [if_neg (by omega)]
      rw [h1, Nat.mul_one] at hs
      rw [hs, bitLen_top m _ (by omega) (by rw [Nat.pow_succ]; omega) (by omega)]
      omega

theorem ov_rep (b : Int) (m : Nat) : ov (List.replicate m b) = b * (2 ^ m - 1) := by
  induction m with
  | zero => simp [ov]
  | succ m ih =>
    rw [List.replicate_succ]
    simp only [ov]
    rw [ih, Int.pow_succ]
    rw [Int.mul_sub, Int.mul_sub, Int.mul_sub]
    have : b * (2 ^ m * 2) = 2 * (b * 2 ^ m) := by ac_rfl
    omega
theorem l3_go (n : Nat) (W : Nat) (b : Int) (P : List Int) (hP : P.length = W) (hW : 1 ≤ W) (hlast : P.getD (W - 1) 0 = b) (hn : n ≤ 64) (r : Int) (d : Nat) : ∀ (k i : Nat) (l : List Int), d < k → n - i = d → i ≤ n → W ≤ i → l.length = n → l.take i = P ++ List.replicate (i - W) b →
    (∀ k, 100 ≤ k → bodkinref02_of.f k (P ++ List.replicate (n - W) b) = some r) → 101 + d ≤ k → bodkinref02_Un.l3 k (n : Int) l (W : Int) (i : Int) = some (r, 0) := by
  induction d with
  | zero =>
    intro k i l hk hd hi hWi hl ht hr hkk
    obtain ⟨k, rfl⟩ : ∃ m, k = m + 1 := ⟨k - 1, by omega⟩
    simp only [bodkinref02_Un.l3]
    obtain rfl : i = n := by omega
    rw [List.take_of_length_le (by omega)] at ht
    subst ht
    rw [if_neg (by omega)]
    rw [hr k (by omega)]
    rfl
  | succ d ih =>
    intro k i l hk hd hi hWi hl ht hr hkk
    obtain ⟨k, rfl⟩ : ∃ m, k = m + 1 := ⟨k - 1, by omega⟩
    have hb : rd l (wrap64 ((W : Int) - 1)) = b := by
      rw [wr_i _ (by omega) (by omega), show (W : Int) - 1 = ((W - 1 : Nat) : Int) by omega]
      unfold rd
      rw [Int.toNat_natCast, ← hlast]
      have e1 : (l.take i).getD (W - 1) 0 = l.getD (W - 1) 0 := by
        rw [List.getD_eq_getElem?_getD, List.getD_eq_getElem?_getD, List.getElem?_take, if_pos (by omega)]
      rw [← e1, ht, List.getD_eq_getElem?_getD, List.getElem?_append_left (by omega), ← List.getD_eq_getElem?_getD]
    simp only [bodkinref02_Un.l3]
    rw [hb, wr_i _ (by omega) (by omega), wr_i _ (by omega) (by omega), if_pos (by omega), if_pos (by omega), if_pos (by omega), if_pos (by omega), if_pos (by omega), show (i : Int) + 1 = ((i + 1 : Nat) : Int) from rfl]
    refine ih k (i + 1) _ (by omega) (by omega) (by omega) (by omega) (by simpa using hl) ?_ hr (by omega)
    rw [Int.toNat_natCast, List.take_set, List.take_succ_eq_append_getElem (by omega), ht, show i + 1 - W = (i - W) + 1 by omega, List.replicate_succ', List.set_append_right _ _ (by rw [List.length_append, List.length_replicate]; omega)]
    rw [List.length_append, List.length_replicate, show i - (P.length + (i - W)) = 0 by omega, List.append_assoc]
    rfl

theorem rUn_no (k : Nat) (n op a : Int) (h : ¬ (R n ∧ 1 ≤ op ∧ op ≤ 8)) : bodkinref02_Un.f (k + 1) n op a = some (0, 1) := by
  unfold bodkinref02_Un.f
  by_cases hR : R n
  · rw [rRight_yes n hR]
    simp only [Option.bind_some, if_true]
    by_cases h1 : op < 1
    · rw [if_pos h1]; simp [bodkinref02_Un.j0]
    · rw [if_neg h1, if_pos (show op > 8 from Int.not_le.1 fun h2 => h ⟨hR, by omega, h2⟩)]; simp [bodkinref02_Un.j0]
  · rw [rRight_no n hR]
    simp [bodkinref02_Un.j0]
/-- The guard is passed: all but an extension of too small a number. -/
theorem rUn_in (k : Nat) (n op a : Int) (h : R n) (h1 : 1 ≤ op) (h2 : op ≤ 8) : bodkinref02_Un.f k n op a = bodkinref02_Un.j0 k n op a (decide (4 ≤ op ∧ op ≤ 6 ∧ exW op ≥ n)) := by
  unfold bodkinref02_Un.f
  rw [rRight_yes n h]
  simp only [Option.bind_some, if_true]
  rw [if_neg (by omega), if_neg (by omega)]
  unfold R at h
  unfold exW
  have : op = 4 ∨ op = 5 ∨ op = 6 ∨ (op ≠ 4 ∧ op ≠ 5 ∧ op ≠ 6) := by omega
  rcases this with rfl | rfl | rfl | ⟨g4, g5, g6⟩
  · rw [if_pos rfl]
    by_cases hn : n ≤ 8
    · rw [if_pos hn]
      congr 1
      symm
      exact decide_eq_true (by omega)
    · rw [if_neg hn, if_neg (by decide), if_neg (by decide)]
      congr 1
      symm
      exact decide_eq_false (by simp; omega)
  · rw [if_neg (by decide), if_pos rfl]
    by_cases hn : n ≤ 16
    · rw [if_pos hn]
      congr 1
      symm
      exact decide_eq_true (by omega)
    · rw [if_neg hn, if_neg (by decide)]
      congr 1
      symm
      exact decide_eq_false (by simp; omega)
  · rw [if_neg (by decide), if_neg (by decide), if_pos rfl]
    congr 1
    by_cases hn : n ≤ 32
    · rw [decide_eq_true hn]; symm; exact decide_eq_true (by simp; omega)
    · rw [decide_eq_false hn]; symm; exact decide_eq_false (by simp; omega)
  · rw [if_neg g4, if_neg g5, if_neg g6]
    congr 1
    symm
    exact decide_eq_false (by omega)
theorem ext_nat (X P Q : Nat) (hP : 0 < P) (hQ : 2 ≤ Q) :
    ((X : Int) % (2 * P : Nat) + (2 * P : Nat) * ((X : Int) / P % 2 * ((Q : Int) - 1))) = (if ((X : Int) % (2 * P : Nat)) < (P : Int) then ((X : Int) % (2 * P : Nat)) else ((X : Int) % (2 * P : Nat)) - (2 * P : Nat)) % ((2 * P * Q : Nat) : Int) := by
  have e0 : ((X : Int) % (2 * P : Nat)) = ((X % (P * 2) : Nat) : Int) := by push_cast; rw [Int.mul_comm]
  have e1 : ((X : Int) / P % 2) = ((X / P % 2 : Nat) : Int) := by push_cast; rfl
  have e2 := @Nat.mod_mul P 2 X
  have hlt := Nat.mod_lt X hP
  have hq : 2 * P * 2 ≤ 2 * P * Q := Nat.mul_le_mul_left _ hQ
  rw [e0, e1]
  by_cases hb : X / P % 2 = 0
  · rw [hb, Nat.mul_zero, Nat.add_zero] at e2
    rw [e2, hb, if_pos (by omega)]
    rw [Int.emod_eq_of_lt (by omega) (by omega)]
    simp
  · have hb1 : X / P % 2 = 1 := by omega
    rw [hb1, Nat.mul_one] at e2
    rw [e2, hb1, if_neg (by omega)]
    generalize X % P = Y at *
    have e3 : ((Y + P : Nat) : Int) - ((2 * P : Nat) : Int) = ((Y + P : Nat) : Int) - ((2 * P : Nat) : Int) + ((2 * P * Q : Nat) : Int) - ((2 * P * Q : Nat) : Int) := by omega
    have e4 : (((2 * P * Q : Nat) : Int)) = ((2 * P : Nat) : Int) * (Q : Int) := by push_cast; rfl
    rw [e3, Int.sub_emod_right, Int.emod_eq_of_lt (by omega) (by omega), e4, Int.mul_sub, Int.mul_sub]
    have e5 : ((2 * P : Nat) : Int) * (((1 : Nat) : Int) * (Q : Int)) = ((2 * P : Nat) : Int) * (Q : Int) := by simp
    rw [e5]
    simp
    omega
theorem ext_bits (N W : Nat) (X : Nat) (hW : 1 ≤ W) (hWN : W ≤ N) : ov (bl W (X : Int) ++ List.replicate (N - W) (bitAt (X : Int) (W - 1))) = ((X : Int) % 2 ^ W + 2 ^ W * (bitAt (X : Int) (W - 1) * (2 ^ (N - W) - 1))) := by
  rw [ov_append, bl_length, ov_rep, ov_bl _ _ (by omega)]
end Go.Proofs.YtajmjmnlapplaaaDoor.Pure
