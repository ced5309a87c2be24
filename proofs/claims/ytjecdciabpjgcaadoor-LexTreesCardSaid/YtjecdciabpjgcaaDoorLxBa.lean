/-
  The reference's two, in the plain spec's words. Condition: the text is no longer than 4000000000 bytes.
  The walk of the reference's space. Condition: the text is no longer than 1000000 bytes.
  What stands behind \u{, as the reference reads it, is what the plain form says (plain lists of bytes; no program in sight).
  The reference's hex and utf: closed forms of the print's functions, and their contracts in short form.
  The walk of the reference's escape. Condition: the text is no longer than 1000000 bytes.
  The walk of the reference's str. Condition: the text is no longer than 1000000 bytes.
  The walk of the reference's Tokens. Condition: the text is no longer than 1000000 bytes.
-/
import Derived.Test.YtjecdciabpjgcaaDoorLxE
import Derived.Test.YtjecdciabpjgcaaDoorPLxx2
import Derived.Test.YtjecdciabpjgcaaDoorLxS
import Derived.Test.YtjecdciabpjgcaaDoorLxH
import Derived.Test.YtjecdciabpjgcaaDoorPLxx8
import Derived.Test.YtjecdciabpjgcaaDoorPLxx4
import Derived.Test.YtjecdciabpjgcaaDoorLxK
namespace Go.Proofs.YtjecdciabpjgcaaDoor.Lx
set_option linter.unusedVariables false
set_option linter.unusedSimpArgs false
open Go.RowKit Go.Proofs.YtjecdciabpjgcaaDoorW.PrintWords Go.Proofs.YtjecdciabpjgcaaDoor.PLx

theorem bt_nat (s : ByteArray) (n : Nat) (h : n < s.size) : bt s (n : Int) = (s[n].toNat : Int) := by
  unfold bt
  rw [dif_pos (by simpa using h)]
  rfl
theorem pre2 (a b c d : UInt8) (t : List UInt8) : Lib.hasPrefix (c :: d :: t) [a, b] = (a == c && (b == d && true)) := rfl
theorem two_f (s : ByteArray) (n : Nat) (a b : UInt8) (hn : n ≤ s.size) (hs : s.size ≤ 4000000000) : bodkinref18_two.f s (n : Int) (a.toNat : Int) (b.toNat : Int) = some (Lib.hasPrefix (s.data.toList.drop n) [a, b]) := by
  have hw : wrap64 ((n : Int) + 1) = ((n + 1 : Nat) : Int) := by unfold wrap64; omega
  unfold bodkinref18_two.f
  rw [hw]
  by_cases h1 : n + 1 < s.size
  · rw [if_pos (by omega), if_pos (by omega), if_pos (by omega), bt_nat s n (by omega), bt_nat s (n + 1) h1, drop_at s n (by omega), drop_at s (n + 1) h1, pre2]
    by_cases ha : s[n] = a
    · rw [if_pos (by rw [ha]), if_pos (by omega), ha]
      simp only [beq_self_eq_true, Bool.true_and, Bool.and_true]
      congr 1
      rw [Bool.eq_iff_iff, beq_iff_eq, beq_iff_eq]
      constructor
      · intro h
        exact (UInt8.toNat_inj.1 (by omega)).symm
      · intro h
        rw [h]
    · rw [if_neg (fun h => ha (UInt8.toNat_inj.1 (by omega)))]
      have : (a == s[n]) = false := by rw [beq_eq_false_iff_ne]; exact fun h => ha h.symm
      rw [this]
      rfl
  · rw [if_neg (by omega)]
    congr 1
    cases hp : Lib.hasPrefix (s.data.toList.drop n) [a, b]
    · rfl
    · have := pre_len _ _ hp
      rw [List.length_drop, len_data] at this
      simp at this
      omega
theorem two_c (s : ByteArray) (n : Nat) (a b : UInt8) (hn : n ≤ s.size) (hs : s.size ≤ 4000000000) (w : World) :
    Calls Tryd.prog 31 #[.string s, .int .i64 (n : Int), .int .u8 (a.toNat : Int), .int .u8 (b.toNat : Int)] w fun e w' => e = .returned (.bool (Lib.hasPrefix (s.data.toList.drop n) [a, b])) ∧ Drawn0 w w' :=
  bodkinref18_two.calls s n a.toNat b.toNat _ w (two_f s n a b hn hs)
end Go.Proofs.YtjecdciabpjgcaaDoor.Lx

namespace Go.Proofs.YtjecdciabpjgcaaDoor.Lx
set_option linter.unusedVariables false
set_option linter.unusedSimpArgs false
open Go.RowKit Go.Proofs.YtjecdciabpjgcaaDoorW.PrintWords Go.Proofs.YtjecdciabpjgcaaDoor.PLx

def numV : Value → Nat
  | .int _ i => i.toNat
  | _ => 0
/-- The place behind space; -1: it doesn't end. -/
def spAt (N : Nat) : Option (List UInt8) → Int
  | none => -1
  | some r => ((N - r.length : Nat) : Int)
structure RsQ (w : World) (r : Int) (e : Ending) (w' : World) : Prop where mk ::
  (out : e = .returned (.int .i64 r) ∧ Below w.heap.size w w')
def LnR (s : ByteArray) (w : World) (m : Nat) (v1 : Value) (wr : World) : Prop :=
  ∃ j : Nat, v1 = .int .i64 (j : Int) ∧ m ≤ j ∧ j ≤ s.size ∧ Below w.heap.size w wr ∧ (s.data.toList.drop m).dropWhile (· != 10) = (s.data.toList.drop j).dropWhile (· != 10)
def thenSpc (f : Nat) : Option (List UInt8) → Option (List UInt8)
  | none => none
  | some r => spc f r
def CnR (s : ByteArray) (w : World) (m : Nat) (C : Option (List UInt8)) (v1 v6 : Value) (wr : World) : Prop :=
  ∃ j d g : Nat, v1 = .int .i64 (j : Int) ∧ v6 = .int .i64 (d : Int) ∧ m ≤ j ∧ j < s.size ∧ (d = 0 → Lib.hasPrefix (s.data.toList.drop j) [40, 59] = true) ∧ d ≤ j ∧ cm g d (s.data.toList.drop j) = C ∧ s.size - j < g ∧ Below w.heap.size w wr
def RsR (s : ByteArray) (w : World) (R : Option (List UInt8)) (v1 : Value) (wr : World) : Prop :=
  ∃ n f : Nat, v1 = .int .i64 (n : Int) ∧ n ≤ s.size ∧ Below w.heap.size w wr ∧ s.size - n < f ∧ spc f (s.data.toList.drop n) = R
set_option maxRecDepth 1000000 in
set_option maxHeartbeats 4000000 in
theorem refSpace_c (s : ByteArray) (n : Nat) (hn : n ≤ s.size) (hs : s.size ≤ 1000000) (w : World) (R : Option (List UInt8)) (hR : spc (s.size - n + 1) (s.data.toList.drop n) = R) : Calls Tryd.prog 22 #[.string s, .int .i64 (n : Int)] w (RsQ w (spAt s.size R)) := by
  have HA : Hid (RsR s w R (.int .i64 (n : Int)) w) := Lib.hid ⟨n, s.size - n + 1, rfl, hn, Below.refl _ _, by omega, hR⟩
  clear hR
  go_enter Tryd.func22, Tryd.ntmps22
  go_wp2
  go_loopw [1] (RsR s w R) (fun v1 wr => s.size - numV v1)
  case atStart => exact HA.out
  case round =>
    obtain ⟨m, f, rfl, hm, hb, hf, hc⟩ := hrel
    have HB := Lib.hid hb
    clear hb HA
    obtain ⟨f, rfl⟩ : ∃ k, f = k + 1 := ⟨f - 1, by omega⟩
    by_cases hlt : m < s.size
    · have hi1 : (m : Int) < (s.size : Int) := by omega
      have hi2 : (0 : Int) ≤ (m : Int) := by omega
      have hdr := drop_at s m hlt
      have hx := UInt8.toNat_lt s[m]
      have HT1 := Lib.hid (fun w => two_c s m 59 59 hm (by omega) w)
      have HT2 := Lib.hid (fun w => two_c s m 40 59 hm (by omega) w)
      cases hws : isWs s[m]
      · have hw1 : ((s[m].toNat : Int) == 32) = false ∧ ((s[m].toNat : Int) == 9) = false ∧ ((s[m].toNat : Int) == 10) = false ∧ ((s[m].toNat : Int) == 13) = false := by
          unfold isWs at hws
          simp only [Bool.or_eq_false_iff, beq_eq_false_iff_ne, ne_eq] at hws
          obtain ⟨⟨⟨a, b⟩, c⟩, d⟩ := hws
          have key : ∀ (x : UInt8) (k : Nat), x.toNat = k → s[m] ≠ x → ((s[m].toNat : Int) == (k : Int)) = false := fun x k hk h => by
            rw [beq_eq_false_iff_ne]
            intro e
            exact h (UInt8.toNat_inj.1 (by omega))
          exact ⟨key 32 32 rfl a, key 9 9 rfl b, key 10 10 rfl c, key 13 13 rfl d⟩
        obtain ⟨hw1, hw2, hw3, hw4⟩ := hw1
        cases h1 : Lib.hasPrefix (s.data.toList.drop m) [59, 59]
        · cases h2 : Lib.hasPrefix (s.data.toList.drop m) [40, 59]
          · have HE : Hid (R = some (s.data.toList.drop m)) := Lib.hid (by rw [← hc, hdr]; exact spc_end f _ _ hws (by rw [← hdr]; exact h1) (by rw [← hdr]; exact h2))
            rw [h1] at HT1
            rw [h2] at HT2
            have HL : Hid (spAt s.size (some (s.data.toList.drop m)) = (m : Int)) := Lib.hid (by show ((s.size - (s.data.toList.drop m).length : Nat) : Int) = _; rw [List.length_drop, len_data]; omega)
            clear hc hdr h1 h2 hws
            go_wp2_with fail
            refine (HT1.out _).mono ?_
            rintro e w1 ⟨rfl, hd1⟩
            have HB1 := Lib.hid (below_step HB.out (hd1.below))
            clear hd1
            go_wp2_with fail
            refine (HT2.out _).mono ?_
            rintro e w2 ⟨rfl, hd2⟩
            have HB2 := Lib.hid (below_step HB1.out (hd2.below))
            clear hd2
            go_wp2
            go_ret
            exact ⟨by rw [HE.out, HL.out]; rfl, HB2.out⟩
          · obtain ⟨C, hC⟩ : ∃ C, cm ((s.data.toList.drop m).length + 1) 0 (s.data.toList.drop m) = C := ⟨_, rfl⟩
            have HE : Hid (R = thenSpc f C) := Lib.hid (by
              rw [← hc, ← hC, hdr, spc_com f _ _ hws (by rw [← hdr]; exact h1) (by rw [← hdr]; exact h2)]
              generalize cm ((s[m] :: s.data.toList.drop (m + 1)).length + 1) 0 (s[m] :: s.data.toList.drop (m + 1)) = X
              cases X <;> rfl)
            rw [List.length_drop, len_data] at hC
            have H2 := Lib.hid h2
            rw [h1] at HT1
            rw [h2] at HT2
            have HC := Lib.hid hC
            clear hc hdr h1 h2 hws hC
            go_wp2_with fail
            refine (HT1.out _).mono ?_
            rintro e w1 ⟨rfl, hd1⟩
            have HB1 := Lib.hid (below_step HB.out hd1.below)
            clear hd1
            go_wp2_with fail
            refine (HT2.out _).mono ?_
            rintro e w2 ⟨rfl, hd2⟩
            have HB2 := Lib.hid (below_step HB1.out hd2.below)
            have HA : Hid (CnR s w m C (.int .i64 (m : Int)) (.int .i64 0) w2) := Lib.hid ⟨m, 0, _, rfl, rfl, Nat.le_refl _, hlt, fun _ => H2.out, Nat.zero_le _, HC.out, by omega, HB2.out⟩
            clear hd2
            go_wp2
            go_loopw [1, 6] (CnR s w m C) (fun v1 _ wr => s.size - numV v1)
            case atStart => exact HA.out
            case round =>
              obtain ⟨j, d, g, rfl, rfl, hj1, hj2, hd0, hdl, hcm, hg, hb⟩ := hrel
              have HBJ := Lib.hid hb
              clear hb HA HC H2
              obtain ⟨g, rfl⟩ : ∃ k, g = k + 1 := ⟨g - 1, by omega⟩
              have HTa := Lib.hid (fun w => two_c s j 40 59 (by omega) (by omega) w)
              have HTb := Lib.hid (fun w => two_c s j 59 41 (by omega) (by omega) w)
              have hi4 : (0 : Int) ≤ (j : Int) := by omega
              cases p1 : Lib.hasPrefix (s.data.toList.drop j) [40, 59]
              · have hdp : d ≠ 0 := fun h => by have := hd0 h; rw [p1] at this; cases this
                cases p2 : Lib.hasPrefix (s.data.toList.drop j) [59, 41]
                · rw [cm_on g d _ (by rw [drop_at s j hj2]; simp) p1 p2, List.drop_drop] at hcm
                  rw [p1] at HTa
                  rw [p2] at HTb
                  have HCM := Lib.hid hcm
                  have qd : ((d : Int) == 0) = false := by simp only [beq_eq_false_iff_ne, ne_eq]; omega
                  clear hcm p1 p2 hd0
                  go_wp2_with fail
                  refine (HTa.out _).mono ?_
                  rintro e w3 ⟨rfl, hd3⟩
                  have HB3 := Lib.hid (below_step HBJ.out hd3.below)
                  clear hd3
                  go_wp2_with fail
                  refine (HTb.out _).mono ?_
                  rintro e w4 ⟨rfl, hd4⟩
                  have HB4 := Lib.hid (below_step HB3.out hd4.below)
                  clear hd4
                  by_cases hjn : j + 1 < s.size
                  · have q1 : (j : Int) + 1 < (s.size : Int) := by omega
                    go_wp2
                    go_roundw
                    case rel => exact ⟨j + 1, d, g, by push_cast; rfl, rfl, by omega, hjn, fun h => absurd h hdp, by omega, HCM.out, by omega, HB4.out⟩
                    case measure => simp only [numV]; omega
                  · have q1 : (s.size : Int) ≤ (j : Int) + 1 := by omega
                    have hn : C = none := by rw [← HCM.out, drop_end s (j + 1) (by omega), cm_nil]
                    have HR : Hid (R = none) := Lib.hid (by rw [HE.out, hn]; rfl)
                    go_wp2
                    go_ret
                    exact ⟨by rw [HR.out]; rfl, HB4.out⟩
                · rw [cm_shut g d _ p1 p2, List.drop_drop] at hcm
                  have hpl := pre_len _ _ p2
                  rw [List.length_drop, len_data] at hpl
                  have hpl2 : j + 2 ≤ s.size := by simp at hpl; omega
                  rw [p1] at HTa
                  rw [p2] at HTb
                  clear p1 p2 hd0 hpl
                  by_cases hd1 : d = 1
                  · subst hd1
                    rw [if_pos rfl] at hcm
                    have HR : Hid (spc f (s.data.toList.drop (j + 2)) = R) := Lib.hid (by rw [HE.out, ← hcm]; rfl)
                    clear hcm
                    go_wp2_with fail
                    refine (HTa.out _).mono ?_
                    rintro e w3 ⟨rfl, hd3⟩
                    have HB3 := Lib.hid (below_step HBJ.out hd3.below)
                    clear hd3
                    go_wp2_with fail
                    refine (HTb.out _).mono ?_
                    rintro e w4 ⟨rfl, hd4⟩
                    have HB4 := Lib.hid (below_step HB3.out hd4.below)
                    clear hd4
                    go_wp2
                    go_roundw
                    case rel => exact ⟨j + 2, f, by push_cast; rfl, hpl2, HB4.out, by omega, HR.out⟩
                    case measure => simp only [numV]; omega
                  · rw [if_neg hd1] at hcm
                    have HCM := Lib.hid hcm
                    obtain ⟨D, hD⟩ : ∃ D, D = d - 1 := ⟨_, rfl⟩
                    rw [← hD] at HCM
                    have hdD : (d : Int) - 1 = (D : Int) := by omega
                    have hD0 : 1 ≤ D := by omega
                    have hDj : D ≤ j := by omega
                    have qd : ((D : Int) == 0) = false := by simp only [beq_eq_false_iff_ne, ne_eq]; omega
                    clear hcm hD
                    go_wp2_with fail
                    refine (HTa.out _).mono ?_
                    rintro e w3 ⟨rfl, hd3⟩
                    have HB3 := Lib.hid (below_step HBJ.out hd3.below)
                    clear hd3
                    go_wp2_with fail
                    refine (HTb.out _).mono ?_
                    rintro e w4 ⟨rfl, hd4⟩
                    have HB4 := Lib.hid (below_step HB3.out hd4.below)
                    clear hd4
                    by_cases hjn : j + 2 < s.size
                    · have q1 : (j : Int) + 2 < (s.size : Int) := by omega
                      go_wp2
                      go_roundw
                      case rel => exact ⟨j + 2, D, g, by push_cast; rfl, by first | rfl | (push_cast; rfl), by omega, hjn, fun h => absurd h (by omega), by omega, HCM.out, by omega, HB4.out⟩
                      case measure => simp only [numV]; omega
                    · have q1 : (s.size : Int) ≤ (j : Int) + 2 := by omega
                      have hn : C = none := by rw [← HCM.out, drop_end s (j + 2) (by omega), cm_nil]
                      have HR : Hid (R = none) := Lib.hid (by rw [HE.out, hn]; rfl)
                      go_wp2
                      go_ret
                      exact ⟨by rw [HR.out]; rfl, HB4.out⟩
              · rw [cm_open g d _ p1, List.drop_drop] at hcm
                have hpl := pre_len _ _ p1
                rw [List.length_drop, len_data] at hpl
                have hpl2 : j + 2 ≤ s.size := by simp at hpl; omega
                rw [p1] at HTa
                have HCM := Lib.hid hcm
                have qd : ((d : Int) + 1 == 0) = false := by simp only [beq_eq_false_iff_ne, ne_eq]; omega
                clear hcm p1 hd0 hpl HTb
                go_wp2_with fail
                refine (HTa.out _).mono ?_
                rintro e w4 ⟨rfl, hd4⟩
                have HB4 := Lib.hid (below_step HBJ.out hd4.below)
                clear hd4
                by_cases hjn : j + 2 < s.size
                · have q1 : (j : Int) + 2 < (s.size : Int) := by omega
                  go_wp2
                  go_roundw
                  case rel => exact ⟨j + 2, d + 1, g, by push_cast; rfl, by first | rfl | (push_cast; rfl), by omega, hjn, fun h => absurd h (by omega), by omega, HCM.out, by omega, HB4.out⟩
                  case measure => simp only [numV]; omega
                · have q1 : (s.size : Int) ≤ (j : Int) + 2 := by omega
                  have hn : C = none := by rw [← HCM.out, drop_end s (j + 2) (by omega), cm_nil]
                  have HR : Hid (R = none) := Lib.hid (by rw [HE.out, hn]; rfl)
                  go_wp2
                  go_ret
                  exact ⟨by rw [HR.out]; rfl, HB4.out⟩
        · have HE : Hid (spc f ((s.data.toList.drop m).dropWhile (· != 10)) = R) := Lib.hid (by rw [← hc, hdr]; exact (spc_line f _ _ hws (by rw [← hdr]; exact h1)).symm)
          have hm10 : s[m] ≠ 10 := fun h => by rw [h] at hws; exact absurd hws (by decide)
          rw [h1] at HT1
          clear hc hdr h1 hws HT2
          go_wp2_with fail
          refine (HT1.out _).mono ?_
          rintro e w1 ⟨rfl, hd1⟩
          have HB1 := Lib.hid (below_step HB.out hd1.below)
          have HA : Hid (LnR s w m (.int .i64 (m : Int)) w1) := Lib.hid ⟨m, rfl, Nat.le_refl _, hm, HB1.out, rfl⟩
          clear hd1
          go_wp2
          go_loopw [1] (LnR s w m) (fun v1 wr => s.size - numV v1)
          case atStart => exact HA.out
          case round =>
            obtain ⟨j, rfl, hj1, hj2, hb, hdw⟩ := hrel
            have HBJ := Lib.hid hb
            clear hb HA
            by_cases hjl : j < s.size
            · have hdj := drop_at s j hjl
              have hi3 : (j : Int) < (s.size : Int) := by omega
              have hi4 : (0 : Int) ≤ (j : Int) := by omega
              by_cases h10 : s[j] = 10
              · have hjm : j ≠ m := fun h => by subst h; exact hm10 h10
                have HR : Hid (spc f (s.data.toList.drop j) = R) := Lib.hid (by
                  have := HE.out
                  rw [hdw, hdj, List.dropWhile_cons_of_neg (by rw [h10]; decide)] at this
                  rw [hdj]
                  exact this)
                have q : ((s[j].toNat : Int) != 10) = false := by rw [h10]; decide
                clear h10 hdj hdw
                go_wp2
                go_roundw
                case rel => exact ⟨j, f, rfl, hj2, HBJ.out, by omega, HR.out⟩
                case measure => simp only [numV]; omega
              · have q : ((s[j].toNat : Int) != 10) = true := by
                  simp only [bne_iff_ne, ne_eq]
                  intro h
                  exact h10 (UInt8.toNat_inj.1 (by have e : (10 : UInt8).toNat = 10 := rfl; omega))
                have HR : Hid ((s.data.toList.drop m).dropWhile (· != 10) = (s.data.toList.drop (j + 1)).dropWhile (· != 10)) := Lib.hid (by
                  rw [hdw, hdj, List.dropWhile_cons_of_pos (by simpa using h10)])
                clear h10 hdj hdw
                go_wp2
                go_roundw
                case rel => exact ⟨j + 1, by push_cast; rfl, by omega, by omega, HBJ.out, HR.out⟩
                case measure => simp only [numV]; omega
            · have hjm : j ≠ m := by omega
              have HR : Hid (spc f (s.data.toList.drop j) = R) := Lib.hid (by
                have := HE.out
                rw [hdw, drop_end s j (by omega)] at this
                rw [drop_end s j (by omega)]
                exact this)
              clear hdw
              go_wp2
              go_roundw
              case rel => exact ⟨j, f, rfl, hj2, HBJ.out, by omega, HR.out⟩
              case measure => simp only [numV]; omega
      · have HE : Hid (spc f (s.data.toList.drop (m + 1)) = R) := Lib.hid (by rw [← hc, hdr]; exact (spc_ws f _ _ hws).symm)
        unfold isWs at hws
        simp only [Bool.or_eq_true, beq_iff_eq] at hws
        clear hc hdr HT1 HT2
        rcases hws with ((hw | hw) | hw) | hw
        · have q32 : ((s[m].toNat : Int) == 32) = true := by rw [hw]; decide
          clear hw
          go_wp2
          go_roundw
          case rel => exact ⟨m + 1, f, by push_cast; rfl, by omega, HB.out, by omega, HE.out⟩
          case measure => simp only [numV]; omega
        · have q9 : ((s[m].toNat : Int) == 9) = true := by rw [hw]; decide
          have q32 : ((s[m].toNat : Int) == 32) = false := by rw [hw]; decide
          clear hw
          go_wp2
          go_roundw
          case rel => exact ⟨m + 1, f, by push_cast; rfl, by omega, HB.out, by omega, HE.out⟩
          case measure => simp only [numV]; omega
        · have q10 : ((s[m].toNat : Int) == 10) = true := by rw [hw]; decide
          have q32 : ((s[m].toNat : Int) == 32) = false := by rw [hw]; decide
          have q9 : ((s[m].toNat : Int) == 9) = false := by rw [hw]; decide
          clear hw
          go_wp2
          go_roundw
          case rel => exact ⟨m + 1, f, by push_cast; rfl, by omega, HB.out, by omega, HE.out⟩
          case measure => simp only [numV]; omega
        · have q13 : ((s[m].toNat : Int) == 13) = true := by rw [hw]; decide
          have q32 : ((s[m].toNat : Int) == 32) = false := by rw [hw]; decide
          have q9 : ((s[m].toNat : Int) == 9) = false := by rw [hw]; decide
          have q10 : ((s[m].toNat : Int) == 10) = false := by rw [hw]; decide
          clear hw
          go_wp2
          go_roundw
          case rel => exact ⟨m + 1, f, by push_cast; rfl, by omega, HB.out, by omega, HE.out⟩
          case measure => simp only [numV]; omega
    · have HE : Hid (R = some []) := Lib.hid (by rw [← hc, drop_end s m (by omega)]; rfl)
      have HL : Hid (spAt s.size (some []) = (m : Int)) := Lib.hid (by show ((s.size - 0 : Nat) : Int) = _; omega)
      clear hc
      go_wp2
      go_ret
      exact ⟨by rw [HE.out, HL.out]; rfl, HB.out⟩
end Go.Proofs.YtjecdciabpjgcaaDoor.Lx

namespace Go.Proofs.YtjecdciabpjgcaaDoor.Lx
set_option linter.unusedVariables false
set_option linter.unusedSimpArgs false

/-- The reference's reading of digits: was the last sign a mark between; the number so far, held at 10000000 and more. -/
def ur : Bool → Nat → List UInt8 → Option Nat
  | was, n, [] => if was = true then none else some n
  | was, n, c :: t => if c = 95 then (if was = true then none else ur true n t) else if ishex c = true then ur false (if n < 10000000 then n * 16 + dval c else n) t else none
def okU : Bool → List UInt8 → Bool
  | was, [] => !was
  | was, c :: t => if c = 95 then !was && okU true t else ishex c && okU false t
theorem ur_ok : ∀ (l : List UInt8) (was : Bool) (n : Nat), okU was l = false → ur was n l = none
  | [], was, n, h => by simp [okU] at h; simp [ur, h]
  | c :: t, was, n, h => by
    unfold okU at h
    unfold ur
    by_cases hc : c = 95
    · rw [if_pos hc] at h ⊢
      cases was
      · rw [if_neg (by simp)]
        exact ur_ok t true n (by simpa using h)
      · rw [if_pos rfl]
    · rw [if_neg hc] at h ⊢
      cases hx : ishex c
      · rw [if_neg (by simp)]
      · rw [if_pos rfl]
        exact ur_ok t false _ (by simpa [hx] using h)
def satN : Nat → List UInt8 → Nat
  | n, [] => n
  | n, c :: t => if c = 95 then satN n t else satN (if n < 10000000 then n * 16 + dval c else n) t
theorem ur_sat : ∀ (l : List UInt8) (was : Bool) (n : Nat), okU was l = true → ur was n l = some (satN n l)
  | [], was, n, h => by simp [okU] at h; simp [ur, h, satN]
  | c :: t, was, n, h => by
    unfold okU at h
    unfold ur satN
    by_cases hc : c = 95
    · rw [if_pos hc] at h
      rw [if_pos hc, if_pos hc]
      cases was
      · rw [if_neg (by simp)]
        exact ur_sat t true n (by simpa using h)
      · simp at h
    · rw [if_neg hc] at h
      rw [if_neg hc, if_neg hc]
      cases hx : ishex c
      · simp [hx] at h
      · rw [if_pos rfl]
        exact ur_sat t false _ (by simpa [hx] using h)
theorem sat_digs : ∀ (l : List UInt8) (n : Nat), satN n l = satN n (digs l)
  | [], n => rfl
  | c :: t, n => by
    by_cases hc : c = 95
    · subst hc
      have : digs (95 :: t) = digs t := by simp [digs]
      rw [this]
      show (if (95 : UInt8) = 95 then _ else _) = _
      rw [if_pos rfl]
      exact sat_digs t n
    · have : digs (c :: t) = c :: digs t := by simp [digs, hc]
      rw [this]
      unfold satN
      rw [if_neg hc, if_neg hc]
      exact sat_digs t _
theorem not95' (c : UInt8) (h : ishex c = true) : c ≠ 95 := by rintro rfl; exact absurd h (by decide)
theorem dval_16 (c : UInt8) (h : ishex c = true) : dval c < 16 := by
  have : ∀ n : Fin 256, ishex n.val.toUInt8 = true → dval n.val.toUInt8 < 16 := by decide +kernel
  have := this ⟨c.toNat, c.toNat_lt⟩
  simp at this
  exact this h
theorem sat_big : ∀ (l : List UInt8) (n : Nat), 10000000 ≤ n → 10000000 ≤ satN n l
  | [], n, h => h
  | c :: t, n, h => by
    unfold satN
    split
    · exact sat_big t n h
    · exact sat_big t _ (by split <;> omega)
theorem num_ge (b : Nat) (hb : 1 ≤ b) : ∀ (l : List UInt8) (n m : Nat), numK b l n = some m → n ≤ m
  | [], n, m, h => by simp [numK] at h; omega
  | c :: t, n, m, h => by
    unfold numK at h
    split at h
    · cases h
    · have := num_ge b hb t _ m h
      have : n * 1 ≤ n * b := Nat.mul_le_mul_left _ hb
      omega
/-- Both numbers agree, or both are too great. -/
theorem sat_num : ∀ (l : List UInt8) (n : Nat), (∀ c ∈ l, ishex c = true) → n < 10000000 * 16 + 16 →
    (numK 16 l n = some (satN n l)) ∨ (1114111 < satN n l ∧ ∀ m, numK 16 l n = some m → 1114111 < m)
  | [], n, _, _ => .inl rfl
  | c :: t, n, hh, hn => by
    have hc := hh c (by simp)
    have hd := dval_16 c hc
    have ht : ∀ c ∈ t, ishex c = true := fun x hx => hh x (by simp [hx])
    unfold numK satN
    rw [if_neg (not95' c hc)]
    have hk : ¬ (18446744073709551615 - dval c) / 16 < n := by omega
    rw [if_neg hk]
    by_cases hb : n < 10000000
    · rw [if_pos hb]
      exact sat_num t _ ht (by omega)
    · rw [if_neg hb]
      refine .inr ⟨?_, fun m hm => ?_⟩
      · have := sat_big t n (by omega)
        omega
      · have := num_ge 16 (by omega) t _ m hm
        omega
theorem has_suf_cons (c d : UInt8) (t : List UInt8) : Lib.hasSuffix (c :: d :: t) [95] = Lib.hasSuffix (d :: t) [95] := by
  unfold Lib.hasSuffix
  rw [Bool.eq_iff_iff]
  simp only [List.isSuffixOf_iff_suffix, List.suffix_cons_iff]
  constructor
  · rintro (h | h)
    · simp at h
    · exact h
  · exact .inr
theorem index_cons (c : UInt8) (t p : List UInt8) : (0 ≤ Lib.index (c :: t) p) ↔ (p.isPrefixOf (c :: t) = true ∨ 0 ≤ Lib.index t p) := by
  have hg := Lib.index_ge t p
  rw [show Lib.index (c :: t) p = if p.isPrefixOf (c :: t) then 0 else if Lib.index t p == -1 then -1 else Lib.index t p + 1 from by rw [Lib.index]]
  by_cases h : p.isPrefixOf (c :: t) = true
  · simp [h]
  · rw [if_neg h]
    by_cases h1 : Lib.index t p = -1
    · rw [h1]; simp [h]
    · have : (Lib.index t p == -1) = false := by simpa using h1
      simp only [this]
      simp [h]
      omega
theorem cont_cons (c : UInt8) (t p : List UInt8) : Lib.contains (c :: t) p = (p.isPrefixOf (c :: t) || Lib.contains t p) := by
  unfold Lib.contains
  rw [Bool.eq_iff_iff]
  simp only [decide_eq_true_eq, Bool.or_eq_true]
  exact index_cons c t p
def allH (l : List UInt8) : Bool := (digs l).all (isdig true)
theorem allH_95 (t : List UInt8) : allH (95 :: t) = allH t := by simp [allH, digs]
theorem allH_at (c : UInt8) (t : List UInt8) (h : c ≠ 95) : allH (c :: t) = (ishex c && allH t) := by simp [allH, digs, h, isdig]
theorem okU_spec : ∀ (l : List UInt8),
    okU false l = (allH l && (!Lib.hasSuffix l [95] && !Lib.contains l [95, 95])) ∧
    okU true l = (!l.isEmpty && (!Lib.hasPrefix l [95] && (allH l && (!Lib.hasSuffix l [95] && !Lib.contains l [95, 95]))))
  | [] => ⟨by rfl, by rfl⟩
  | [c] => by
    by_cases hc : c = 95
    · subst hc
      exact ⟨by rfl, by rfl⟩
    · have h1 : Lib.hasSuffix [c] [95] = false := by
        unfold Lib.hasSuffix
        rw [Bool.eq_false_iff]
        simp only [ne_eq, List.isSuffixOf_iff_suffix]
        intro h
        obtain ⟨a, ha⟩ := h
        cases a with
        | nil => simp at ha; exact hc ha.symm
        | cons x y => simp at ha
      have h2 : Lib.contains [c] [95, 95] = false := by
        rw [cont_cons]
        simp [List.isPrefixOf, Lib.contains, Lib.index]
      have h3 : Lib.hasPrefix [c] [95] = false := by simp [Lib.hasPrefix, List.isPrefixOf]; exact fun h => hc h.symm
      rw [h1, h2, h3, allH_at c [] hc]
      simp [okU, hc, allH, digs]
  | c :: d :: t => by
    obtain ⟨i1, i2⟩ := okU_spec (d :: t)
    rw [has_suf_cons, cont_cons]
    by_cases hc : c = 95
    · subst hc
      have h3 : Lib.hasPrefix (95 :: d :: t) [95] = true := by simp [Lib.hasPrefix, List.isPrefixOf]
      have h4 : ([95, 95] : List UInt8).isPrefixOf (95 :: d :: t) = Lib.hasPrefix (d :: t) [95] := by simp [Lib.hasPrefix, List.isPrefixOf]
      rw [h3, h4, allH_95]
      refine ⟨?_, ?_⟩
      · show (if (95 : UInt8) = 95 then !false && okU true (d :: t) else _) = _
        rw [if_pos rfl, i2]
        cases Lib.hasPrefix (d :: t) [95] <;> cases allH (d :: t) <;> cases Lib.hasSuffix (d :: t) [95] <;> cases Lib.contains (d :: t) [95, 95] <;> rfl
      · show (if (95 : UInt8) = 95 then !true && okU true (d :: t) else _) = _
        rw [if_pos rfl]
        simp
    · have h3 : Lib.hasPrefix (c :: d :: t) [95] = false := by simp [Lib.hasPrefix, List.isPrefixOf]; exact fun h => hc h.symm
      have h4 : ([95, 95] : List UInt8).isPrefixOf (c :: d :: t) = false := by simp [List.isPrefixOf]; intro h; exact absurd h.symm hc
      rw [h3, h4, allH_at c _ hc]
      refine ⟨?_, ?_⟩
      · show (if c = 95 then _ else ishex c && okU false (d :: t)) = _
        rw [if_neg hc, i1]
        cases ishex c <;> simp
      · show (if c = 95 then _ else ishex c && okU false (d :: t)) = _
        rw [if_neg hc, i1]
        cases ishex c <;> simp
theorem rowF_ok (l : List UInt8) : (rowF l true).2 = okU true l := by
  rw [(okU_spec l).2]
  unfold rowF odd
  cases hA : (digs l).all (isdig true)
  · simp [allH, hA]
  · rw [if_pos rfl]
    simp only [allH, hA]
    cases l with
    | nil => rfl
    | cons c t =>
      by_cases hc : c = 95
      · subst hc
        simp [Lib.hasPrefix, List.isPrefixOf]
      · have : (digs (c :: t)).isEmpty = false := by simp [digs, hc]
        rw [this]
        cases Lib.hasPrefix (c :: t) [95] <;> cases Lib.hasSuffix (c :: t) [95] <;> cases Lib.contains (c :: t) [95, 95] <;> rfl
theorem rowF_all (l : List UInt8) (h : okU true l = true) : (rowF l true).1 = digs l ∧ ∀ c ∈ digs l, ishex c = true := by
  have h2 := (rowF_ok l).trans h
  unfold rowF at h2 ⊢
  split at h2
  · rename_i ha
    rw [if_pos ha]
    refine ⟨rfl, fun c hc => ?_⟩
    have := List.all_eq_true.1 ha c hc
    simpa [isdig] using this
  · cases h2
/-- The reference's characters. -/
def utfR (n : Nat) : List UInt8 := if n ≤ 1114111 ∧ ¬ (55296 ≤ n ∧ n < 57344) then utf8 n else []
theorem utf8_ne (n : Nat) : utf8 n ≠ [] := by unfold utf8; split <;> (try split) <;> (try split) <;> simp
/-- What stands behind \u{ by way of the reference's reading. -/
def uniF (ds : List UInt8) : Option (List UInt8 × Nat) :=
  match ur true 0 ds with
  | none => none
  | some n => if utfR n = [] then none else some (utfR n, ds.length + 3)
theorem uni_eq (ds : List UInt8) : uniF ds = if (rowF ds true).2 = true then (match numK 16 (rowF ds true).1 0 with
    | none => none
    | some n => if n ≤ 1114111 ∧ ¬ (55296 ≤ n ∧ n < 57344) then some (utf8 n, ds.length + 3) else none) else none := by
  unfold uniF
  cases h : okU true ds
  · rw [ur_ok ds true 0 h, rowF_ok, h]
    rfl
  · obtain ⟨h1, h2⟩ := rowF_all ds h
    rw [ur_sat ds true 0 h, rowF_ok, h, h1, if_pos rfl, sat_digs]
    rcases sat_num (digs ds) 0 h2 (by omega) with hs | ⟨hs, hm⟩
    · rw [hs]
      show (if utfR (satN 0 (digs ds)) = [] then none else _) = _
      unfold utfR
      split
      · rename_i hc
        rw [if_neg (utf8_ne _)]
        exact (if_pos hc).symm
      · rename_i hc
        rw [if_pos rfl]
        exact (if_neg hc).symm
    · show (if utfR (satN 0 (digs ds)) = [] then none else _) = _
      have : utfR (satN 0 (digs ds)) = [] := by unfold utfR; rw [if_neg (by omega)]
      rw [if_pos this]
      cases hk : numK 16 (digs ds) 0 with
      | none => rfl
      | some m =>
        have := hm m hk
        show none = if _ then _ else _
        rw [if_neg (by omega)]
end Go.Proofs.YtjecdciabpjgcaaDoor.Lx

namespace Go.Proofs.YtjecdciabpjgcaaDoor.Lx
set_option linter.unusedVariables false
set_option linter.unusedSimpArgs false
open Go.RowKit Go.Proofs.YtjecdciabpjgcaaDoorW.PrintWords Go.Proofs.YtjecdciabpjgcaaDoor.PLx Go.Proofs.YtjecdciabpjgcaaDoor.Lb

def hexV (c : UInt8) : Int := if ishex c = true then (dval c : Int) else -1
theorem hexR_tab : ∀ n : Fin 256, bodkinref18_hex.f 2 (n.val : Int) = some (hexV n.val.toUInt8) := by decide +kernel
theorem hexR_f (c : UInt8) : bodkinref18_hex.f 2 (c.toNat : Int) = some (hexV c) := by
  have := hexR_tab ⟨c.toNat, c.toNat_lt⟩
  simpa using this
theorem hexR_c (c : UInt8) (v : Int) (h : hexV c = v) (w : World) : Calls Tryd.prog 36 #[.int .u8 (c.toNat : Int)] w fun e w' => e = .returned (.int .i64 v) ∧ Drawn0 w w' := by
  rw [← h]
  exact bodkinref18_hex.calls 2 _ _ w (hexR_f c)
theorem sgnR_tab : ∀ n : Fin 256, bodkinref18_sign.f 40 (n.val : Int) = some (isSign n.val.toUInt8) := by decide +kernel
theorem sgnR_f (c : UInt8) : bodkinref18_sign.f 40 (c.toNat : Int) = some (isSign c) := by
  have := sgnR_tab ⟨c.toNat, c.toNat_lt⟩
  simpa using this
theorem w64s {x : Int} (h1 : -9223372036854775808 ≤ x) (h2 : x ≤ 9223372036854775807) : wrap64 x = x := by unfold wrap64; omega
theorem td (n k : Nat) : Int.tdiv (n : Int) (k : Int) = ((n / k : Nat) : Int) := by rw [Int.ofNat_tdiv]
theorem tm (n k : Nat) : Int.tmod (n : Int) (k : Int) = ((n % k : Nat) : Int) := by rw [Int.ofNat_tmod]
theorem b256 (n : Nat) : ((n.toUInt8.toNat : Nat) : Int) = (n : Int) % 256 := by simp
theorem utfR_f (n : Nat) (hn : n < 1000000000) : bodkinref18_utf.f (n : Int) = some (nb (utfR n)) := by
  have t1 : Int.tdiv (n : Int) 64 = ((n / 64 : Nat) : Int) := td n 64
  have t2 : Int.tdiv (n : Int) 4096 = ((n / 4096 : Nat) : Int) := td n 4096
  have t3 : Int.tdiv (n : Int) 262144 = ((n / 262144 : Nat) : Int) := td n 262144
  have m1 : Int.tmod (n : Int) 64 = ((n % 64 : Nat) : Int) := tm n 64
  have m2 : Int.tmod ((n / 64 : Nat) : Int) 64 = ((n / 64 % 64 : Nat) : Int) := tm _ 64
  have m3 : Int.tmod ((n / 4096 : Nat) : Int) 64 = ((n / 4096 % 64 : Nat) : Int) := tm _ 64
  unfold bodkinref18_utf.f
  rw [t1, t2, t3, m1]
  rw [w64s (x := ((n / 64 : Nat) : Int)) (by omega) (by omega), w64s (x := ((n / 4096 : Nat) : Int)) (by omega) (by omega), w64s (x := ((n / 262144 : Nat) : Int)) (by omega) (by omega), m2, m3]
  rw [w64s (x := 192 + ((n / 64 : Nat) : Int)) (by omega) (by omega), w64s (x := 224 + ((n / 4096 : Nat) : Int)) (by omega) (by omega), w64s (x := 240 + ((n / 262144 : Nat) : Int)) (by omega) (by omega), w64s (x := 128 + ((n % 64 : Nat) : Int)) (by omega) (by omega), w64s (x := 128 + ((n / 64 % 64 : Nat) : Int)) (by omega) (by omega), w64s (x := 128 + ((n / 4096 % 64 : Nat) : Int)) (by omega) (by omega)]
  clear t1 t2 t3 m1 m2 m3
  have e1 : ∀ a b : Nat, ((a : Int) + ((b : Nat) : Int)) % 256 = (((a + b).toUInt8.toNat : Nat) : Int) := fun a b => by rw [b256]; push_cast; rfl
  have f1 := e1 128 (n % 64)
  have f2 := e1 128 (n / 64 % 64)
  have f3 := e1 128 (n / 4096 % 64)
  have f4 := e1 192 (n / 64)
  have f5 := e1 224 (n / 4096)
  have f6 := e1 240 (n / 262144)
  have f0 : (n : Int) % 256 = ((n.toUInt8.toNat : Nat) : Int) := (b256 n).symm
  have z128 : ((128 : Nat) : Int) = 128 := rfl
  have z192 : ((192 : Nat) : Int) = 192 := rfl
  have z224 : ((224 : Nat) : Int) = 224 := rfl
  have z240 : ((240 : Nat) : Int) = 240 := rfl
  rw [z128] at f1 f2 f3
  rw [z192] at f4
  rw [z224] at f5
  rw [z240] at f6
  unfold utfR utf8 nb
  by_cases h1 : n < 128
  · rw [if_pos (by omega), if_pos (by omega), if_pos h1]
    simp only [Option.bind_some]
    rw [if_neg (by omega), f0]
    rfl
  · rw [if_neg (by omega)]
    by_cases h2 : n < 2048
    · rw [if_pos (by omega), if_pos (by omega), if_neg h1, if_pos h2]
      simp only [Option.bind_some]
      rw [if_neg (by omega), f4, f1]
      rfl
    · rw [if_neg (by omega)]
      by_cases h3 : n < 65536
      · rw [if_pos (by omega)]
        simp only [Option.bind_some]
        by_cases hs : 55296 ≤ n ∧ n < 57344
        · rw [if_pos (by omega), if_pos (by omega), if_neg (by omega)]
          rfl
        · rw [if_pos (show n ≤ 1114111 ∧ ¬(55296 ≤ n ∧ n < 57344) by omega), if_neg h1, if_neg h2, if_pos h3, f5, f2, f1]
          by_cases h4 : (n : Int) ≥ 55296
          · rw [if_pos h4, if_neg (by omega)]
            rfl
          · rw [if_neg h4]
            rfl
      · rw [if_neg (by omega)]
        by_cases h4 : n < 1114112
        · rw [if_pos (by omega)]
          simp only [Option.bind_some]
          rw [if_pos (by omega), if_neg (by omega), if_pos (by omega), if_neg h1, if_neg h2, if_neg h3, f6, f3, f2, f1]
          rfl
        · rw [if_neg (by omega), if_pos (by omega), if_neg (by omega), if_neg (by omega)]
          rfl
/-- A row of bytes that a call handed over. -/
theorem R_bytes {w : World} {base : Nat} {ok : Nat → Prop} {v : Value} {xs : List Int} (h : Kd.R (Kd.int .u8) 5 w base ok v xs) : ∃ A c, v = .slice A xs.length c ∧ xs.length ≤ c ∧ ReadsInt w .u8 A xs.length xs := by
  obtain ⟨A, c, e, hl, hC⟩ := Kd.R_reads h
  refine ⟨A, c, e, hl, hC.1, hC.2.1, fun hn => ?_⟩
  obtain ⟨ad, _, hA, _⟩ := Kd.C_get hC 0 0 (by omega) (by omega)
  refine ⟨ad, hA, fun j hj => ?_⟩
  obtain ⟨ad', cs, hA', hcs, hK, hcell⟩ := Kd.C_get hC 0 (j : Int) (by omega) (by omega)
  have : ad' = ad := by rw [hA] at hA'; exact (Option.some.inj hA').symm
  subst this
  have hK : cs = [.int .u8 (xs.getD (j : Int).toNat 0)] := hK
  subst hK
  have := hcell 0 _ rfl
  simpa [Kd.int, Kd.scalar] using this
theorem utfR_c (n : Nat) (hn : n < 1000000000) (w : World) : Calls Tryd.prog 37 #[.int .i64 (n : Int)] w fun e w' => ∃ A c, e = .returned (.slice A (nb (utfR n)).length c) ∧ (nb (utfR n)).length ≤ c ∧ ReadsInt w' .u8 A (nb (utfR n)).length (nb (utfR n)) ∧ Below w.heap.size w w' :=
  (bodkinref18_utf.calls _ _ w (utfR_f n hn)).mono fun e w' ⟨v, he, hR, hb⟩ => by
    obtain ⟨A, c, rfl, hl, hr⟩ := R_bytes hR
    exact ⟨A, c, he, hl, hr, hb⟩
end Go.Proofs.YtjecdciabpjgcaaDoor.Lx

namespace Go.Proofs.YtjecdciabpjgcaaDoor.Lx
set_option linter.unusedVariables false
set_option linter.unusedSimpArgs false
open Go.RowKit Go.Proofs.YtjecdciabpjgcaaDoorW.PrintWords Go.Proofs.YtjecdciabpjgcaaDoor.PLx Go.Proofs.YtjecdciabpjgcaaDoor.Lb

structure ReQ (s : ByteArray) (p : Nat) (w : World) (R : Option (List UInt8 × Nat)) (e : Ending) (w' : World) : Prop where mk ::
  (out : Below w.heap.size w w' ∧ ((R = none ∧ e = .returned (.tuple #[.slice none 0 0, .int .i64 (-1)])) ∨
     ∃ b n A c, R = some (b, n) ∧ e = .returned (.tuple #[.slice A (nb b).length c, .int .i64 ((p + n : Nat) : Int)]) ∧ ReadsInt w' .u8 A (nb b).length (nb b)))
theorem ReQ.bad {s : ByteArray} {p : Nat} {w w' : World} {R : Option (List UInt8 × Nat)} (h : R = none) (hb : Below w.heap.size w w') : ReQ s p w R (.returned (.tuple #[.slice none 0 0, .int .i64 (-1)])) w' := ⟨hb, .inl ⟨h, rfl⟩⟩
def frL : List UInt8 := [116, 110, 114, 34, 39, 92]
def toL : List UInt8 := [9, 10, 13, 34, 39, 92]
def frO : Obj := .cells #[.int .u8 116, .int .u8 110, .int .u8 114, .int .u8 34, .int .u8 39, .int .u8 92] 5
def toO : Obj := .cells #[.int .u8 9, .int .u8 10, .int .u8 13, .int .u8 34, .int .u8 39, .int .u8 92] 5
def Er1 (c : UInt8) (w : World) (v8 : Value) (wr : World) : Prop :=
  ∃ i : Nat, v8 = .int .i64 (i : Int) ∧ i ≤ 6 ∧ Below w.heap.size w wr ∧ wr.heap[w.heap.size]? = some frO ∧ wr.heap[w.heap.size + 1]? = some toO ∧ ∀ j, j < i → frL[j]? ≠ some c
theorem ReQ.one {s : ByteArray} {p : Nat} {w w' : World} {R : Option (List UInt8 × Nat)} {y : UInt8} {g i c : Nat} (h : R = some ([y], 1)) (hc : w'.cell? ⟨g, i, none⟩ = some (.int .u8 (y.toNat : Int))) (hb : Below w.heap.size w w') : ReQ s p w R (.returned (.tuple #[.slice (some ⟨g, i, none⟩) 1 c, .int .i64 ((p : Int) + 1)])) w' :=
  ⟨hb, .inr ⟨[y], 1, some ⟨g, i, none⟩, c, h, by push_cast; rfl, rfl, by simp [nb], fun _ => ⟨_, rfl, fun j hj => by
    have hj : j = 0 := by simp [nb] at hj; exact hj
    subst hj
    simpa [Addr.add, nb] using hc⟩⟩⟩
theorem ReQ.good {s : ByteArray} {p : Nat} {w w' : World} {R : Option (List UInt8 × Nat)} {b : List UInt8} {n : Nat} {m : Int} {A : Option Addr} {l c : Nat} (h : R = some (b, n)) (hl : l = (nb b).length) (hm : m = ((p + n : Nat) : Int)) (hr : ReadsInt w' .u8 A (nb b).length (nb b)) (hb : Below w.heap.size w w') : ReQ s p w R (.returned (.tuple #[.slice A l c, .int .i64 m])) w' := by
  subst hl
  subst hm
  exact ⟨hb, .inr ⟨b, n, A, c, h, rfl, hr⟩⟩
/-- What is left of a row of digits from m on. -/
def ru (s : ByteArray) (p m : Nat) (was : Bool) (n : Nat) : Option (List UInt8 × Nat) :=
  if m + ((s.data.toList.drop m).takeWhile (· != 125)).length < s.size then
    (match ur was n ((s.data.toList.drop m).takeWhile (· != 125)) with
      | none => none
      | some k => if utfR k = [] then none else some (utfR k, (m - p) + ((s.data.toList.drop m).takeWhile (· != 125)).length + 1))
  else none
theorem ru_tw (s : ByteArray) (m : Nat) (h : m < s.size) (h2 : s[m] ≠ 125) : (s.data.toList.drop m).takeWhile (· != 125) = s[m] :: (s.data.toList.drop (m + 1)).takeWhile (· != 125) := by
  rw [drop_at s m h, List.takeWhile_cons_of_pos (by simpa using h2)]
theorem ru_bad (s : ByteArray) (p m n : Nat) (was : Bool) (h : m < s.size) (h2 : s[m] ≠ 125) (hu : ∀ t, ur was n (s[m] :: t) = none) : ru s p m was n = none := by
  unfold ru
  rw [ru_tw s m h h2, hu]
  split <;> rfl
theorem ru_on (s : ByteArray) (p m n n' : Nat) (was was' : Bool) (hp : p ≤ m) (h : m < s.size) (h2 : s[m] ≠ 125) (hu : ∀ t, ur was n (s[m] :: t) = ur was' n' t) : ru s p m was n = ru s p (m + 1) was' n' := by
  unfold ru
  rw [ru_tw s m h h2, hu]
  generalize (s.data.toList.drop (m + 1)).takeWhile (· != 125) = d
  have e1 : m + (s[m] :: d).length = m + 1 + d.length := by rw [List.length_cons]; omega
  have e2 : m - p + (s[m] :: d).length + 1 = m + 1 - p + d.length + 1 := by rw [List.length_cons]; omega
  rw [e1, e2]
theorem ru_end (s : ByteArray) (p m n : Nat) (was : Bool) (h : ¬ m < s.size) : ru s p m was n = none := by
  unfold ru
  rw [if_neg (by omega)]
theorem ru_shut (s : ByteArray) (p m n : Nat) (was : Bool) (h : m < s.size) (h2 : s[m] = 125) : ru s p m was n = if was = true then none else if utfR n = [] then none else some (utfR n, (m - p) + 1) := by
  unfold ru
  rw [drop_at s m h, List.takeWhile_cons_of_neg (by simpa using h2)]
  rw [if_pos (by simpa using h)]
  unfold ur
  cases was <;> simp
theorem esc_ru (s : ByteArray) (p : Nat) (c : UInt8) (h : longE c) (hlt : p < s.size) (hc : s[p] = c) (hu : Lib.hasPrefix (s.data.toList.drop p) [117, 123] = true) : esc (s.data.toList.drop p) = ru s p (p + 2) true 0 := by
  have hd := drop_at s p hlt
  rw [hd, hc] at hu ⊢
  rw [esc_uni_eq c _ h hu]
  have e : (c :: s.data.toList.drop (p + 1)).drop 2 = s.data.toList.drop (p + 2) := by
    rw [List.drop_succ_cons, List.drop_drop]
  simp only
  rw [e]
  have hl : (s.data.toList.drop (p + 2)).length = s.size - (p + 2) := by rw [List.length_drop, len_data]
  have hpl := pre_len _ _ hu
  simp only [List.length_cons, List.length_drop, len_data, List.length_nil] at hpl
  unfold ru
  have hue := uni_eq ((s.data.toList.drop (p + 2)).takeWhile (· != 125))
  unfold uniF at hue
  generalize (s.data.toList.drop (p + 2)).takeWhile (· != 125) = ds at *
  rw [hl]
  have e3 : p + 2 - p + ds.length + 1 = ds.length + 3 := by omega
  rw [e3]
  by_cases hds : p + 2 + ds.length < s.size
  · rw [if_pos hds]
    refine Eq.trans ?_ hue.symm
    have h4 : ds.length < s.size - (p + 2) := by omega
    cases hr : (rowF ds true).2
    · rw [if_neg (by simp), if_neg (by simp)]
    · rw [if_pos ⟨h4, rfl⟩, if_pos rfl]
      cases numK 16 (rowF ds true).1 0 <;> rfl
  · rw [if_neg hds, if_neg (by omega)]
def Er2 (s : ByteArray) (p : Nat) (w : World) (R : Option (List UInt8 × Nat)) (v1 v9 v10 : Value) (wr : World) : Prop :=
  ∃ (m n : Nat) (b : UInt8), v1 = .int .i64 (m : Int) ∧ v9 = .int .i64 (n : Int) ∧ v10 = .int .u8 (b.toNat : Int) ∧ p ≤ m ∧ m ≤ s.size ∧ n < 160000016 ∧ Below w.heap.size w wr ∧ ru s p m (b == 95) n = R
theorem two_heap (w : World) (a b : Obj) : ((w.alloc a).alloc b).heap[w.heap.size]? = some a ∧ ((w.alloc a).alloc b).heap[w.heap.size + 1]? = some b := by
  unfold World.alloc
  refine ⟨by simp [Array.getElem?_push], ?_⟩
  have : w.heap.size + 1 = (w.heap.push a).size := by simp
  rw [this]
  exact Array.getElem?_push_size
theorem six_cases (i : Nat) (h : i < 6) : i = 0 ∨ i = 1 ∨ i = 2 ∨ i = 3 ∨ i = 4 ∨ i = 5 := by omega
theorem fr_at (i : Nat) (h : i < 6) : ∃ x y : UInt8, frL[i]? = some x ∧ toL[i]? = some y ∧ (∀ (w : World) (g : Nat), w.heap[g]? = some frO → w.cell? ⟨g, i, none⟩ = some (.int .u8 (x.toNat : Int))) ∧ (∀ (w : World) (g : Nat), w.heap[g]? = some toO → w.cell? ⟨g, i, none⟩ = some (.int .u8 (y.toNat : Int))) := by
  rcases six_cases i h with rfl | rfl | rfl | rfl | rfl | rfl <;> exact ⟨_, _, rfl, rfl, fun w g hg => (blk_cell hg _).trans rfl, fun w g hg => (blk_cell hg _).trans rfl⟩
set_option maxRecDepth 1000000 in
set_option maxHeartbeats 16000000 in
theorem refEsc_c (s : ByteArray) (p : Nat) (hp : p ≤ s.size) (hs : s.size ≤ 1000000) (w : World) (R : Option (List UInt8 × Nat)) (hR : esc (s.data.toList.drop p) = R) :
    Calls Tryd.prog 32 #[.string s, .int .i64 (p : Int)] w (ReQ s p w R) := by
  by_cases hlt : p < s.size
  · have hlt' : (p : Int) < (s.size : Int) := by omega
    have hdr := drop_at s p hlt
    rw [hdr] at hR
    have HR := Lib.hid hR
    have HD := Lib.hid hdr
    have HA : Hid (Er1 s[p] w (.int .i64 0) ((w.alloc frO).alloc toO)) := Lib.hid
      ⟨0, rfl, by omega, ((Below.refl _ _).alloc (Nat.le_refl _) _).alloc (by simp) _, (two_heap w _ _).1, (two_heap w _ _).2, fun j hj => absurd hj (Nat.not_lt_zero _)⟩
    clear hR hdr
    go_enter Tryd.func32, Tryd.ntmps32
    go_wp2
    go_loopw [8] (Er1 s[p] w) (fun v8 _ => 6 - numV v8)
    case atStart => exact HA.out
    case round =>
      obtain ⟨i, rfl, hi, hb, hf, hg, hj⟩ := hrel
      have HB := Lib.hid hb
      have HF := Lib.hid hf
      have HG := Lib.hid hg
      have HJ := Lib.hid hj
      have hp0 : 0 ≤ (p : Int) := by omega
      clear hb hf hg hj HA
      by_cases hi6 : i < 6
      · obtain ⟨x, y, hx, hy, hxc, hyc⟩ := fr_at i hi6
        have hcell := hxc wr _ HF.out
        have HY := Lib.hid (hyc wr _ HG.out)
        have hi6' : (i : Int) < 6 := by omega
        have hi0 : 0 ≤ (i : Int) := by omega
        clear hxc hyc
        by_cases heq : s[p] = x
        · have hq : ((s[p].toNat : Int) == (x.toNat : Int)) = true := byte_eq _ _ heq
          have HE : Hid (R = some ([y], 1)) := Lib.hid (by rw [← HR.out]; exact esc_sh _ y _ i (by omega) (by rw [heq]; exact hx) hy)
          clear heq hx hy
          go_wp2
          go_quiet (fail)
          go_wp2
          go_ret2
          exact ReQ.one HE.out (by simpa using HY.out) (below_step HB.out (pw_below_drewN (Below.refl _ _) _))
        · have hq : ((s[p].toNat : Int) == (x.toNat : Int)) = false := byte_ne _ _ heq
          have HN : Hid (∀ j, j < i + 1 → frL[j]? ≠ some s[p]) := Lib.hid (fun j hj => by
            rcases Nat.lt_or_ge j i with h | h
            · exact HJ.out j h
            · have : j = i := by omega
              rw [this, hx]
              intro h
              exact heq (Option.some.inj h).symm)
          clear heq hx hy
          go_wp2
          go_quiet (fail)
          go_wp2
          go_roundw
          case rel => exact ⟨i + 1, by push_cast; rfl, by omega, below_step HB.out (pw_below_drewN (Below.refl _ _) _), by simpa using HF.out, by simpa using HG.out, HN.out⟩
          case measure => simp only [numV]; omega
      · have hi6' : 6 ≤ (i : Int) := by omega
        have hl : longE s[p] := by
          have e : i = 6 := by omega
          subst e
          have g := fun j (h : j < 6) => HJ.out j h
          have hne : ∀ (j : Nat) (x : UInt8), j < 6 → frL[j]? = Option.some x → s[p] ≠ x := fun j x h hx e => g j h (by rw [hx, e])
          exact ⟨hne 0 _ (by omega) rfl, hne 1 _ (by omega) rfl, hne 2 _ (by omega) rfl, hne 3 _ (by omega) rfl, hne 4 _ (by omega) rfl, hne 5 _ (by omega) rfl⟩
        have HT := Lib.hid (fun w => two_c s p 117 123 hp (by omega) w)
        clear HJ HF HG
        cases hu : Lib.hasPrefix (s.data.toList.drop p) [117, 123]
        · rw [hu] at HT
          by_cases h1 : p + 1 < s.size
          · have h1' : (p : Int) + 1 < (s.size : Int) := by omega
            have hd1 := drop_at s (p + 1) h1
            rw [HD.out, hd1] at hu
            have hR := HR.out
            rw [hd1, esc_hex_eq _ _ _ hl hu] at hR
            have HX1 := Lib.hid (fun w => hexR_c s[p] _ rfl w)
            have HX2 := Lib.hid (fun w => hexR_c s[p + 1] _ rfl w)
            clear hu hl hd1 HD HR hi hi6
            have HB0 := HB
            by_cases c1 : ishex s[p] = true
            · have v1 : hexV s[p] = (dval s[p] : Int) := by unfold hexV; rw [if_pos c1]
              rw [v1] at HX1
              have q1 : 0 ≤ (dval s[p] : Int) := by omega
              by_cases c2 : ishex s[p + 1] = true
              · have v2 : hexV s[p + 1] = (dval s[p + 1] : Int) := by unfold hexV; rw [if_pos c2]
                rw [v2] at HX2
                have q2 : 0 ≤ (dval s[p + 1] : Int) := by omega
                have b1 := dval_lt s[p] c1
                have b2 := dval_lt s[p + 1] c2
                have HE : Hid (R = some ([(16 * dval s[p] + dval s[p + 1]).toUInt8], 2)) := Lib.hid (by rw [← hR, if_pos ⟨c1, c2⟩])
                obtain ⟨x, hx⟩ : ∃ x, dval s[p] = x := ⟨_, rfl⟩
                obtain ⟨y, hy⟩ : ∃ y, dval s[p + 1] = y := ⟨_, rfl⟩
                rw [hx] at HX1 q1 b1 HE
                rw [hy] at HX2 q2 b2 HE
                clear hx hy v1 v2 hR c1 c2
                go_wp2_with (first | (go_at_call 31; refine (HT.out _).mono ?_; rintro e w1 ⟨rfl, hd1⟩; have HB1 := Lib.hid (below_step HB.out hd1.below); clear hd1) | (go_at_call 36; with_reducible refine (HX1.out _).mono ?_; rintro e w2 ⟨rfl, hd2⟩; have HB2 := Lib.hid (below_step HB1.out hd2.below); clear hd2) | (go_at_call 36; with_reducible refine (HX2.out _).mono ?_; rintro e w3 ⟨rfl, hd3⟩; have HB3 := Lib.hid (below_step HB2.out hd3.below); clear hd3))
                have z1 : IntKind.i64.wrap ((p : Int) + 1) = (p : Int) + 1 := IntWalk.i64_in _ (by omega)
                have z2 : IntKind.i64.wrap (16 * (x : Int)) = 16 * (x : Int) := IntWalk.i64_in _ (by omega)
                obtain ⟨n, hn⟩ : ∃ n, 16 * x + y = n := ⟨_, rfl⟩
                rw [hn] at HE
                have z3 : IntKind.i64.wrap (16 * (x : Int) + (y : Int)) = (n : Int) := (IntWalk.i64_in _ (by omega)).trans (by omega)
                have z6 : (n : Int) % 256 = (n : Int) := by omega
                have z7 : IntKind.u8.wrap (n : Int) = (n : Int) := by rw [IntKind.wrap_u8]; omega
                have z8 : 16 * (x : Int) + (y : Int) = (n : Int) := by omega
                have HN : Hid (nb [n.toUInt8] = [(n : Int)]) := Lib.hid (by show [((n.toUInt8.toNat : Nat) : Int)] = _; rw [b256]; rw [z6])
                have z4 : IntKind.i64.wrap ((p : Int) + 2) = (p : Int) + 2 := IntWalk.i64_in _ (by omega)
                have z5 : ((p : Int) + 1).toNat = p + 1 := by omega
                go_region_with (first | (go_at_call 36; with_reducible refine (HX1.out _).mono ?_; rintro e w4 ⟨rfl, hd4⟩; have HB4 := Lib.hid (below_step (below_drew HB3.out) hd4.below); clear hd4) | (go_at_call 36; with_reducible refine (HX2.out _).mono ?_; rintro e w5 ⟨rfl, hd5⟩; have HB5 := Lib.hid (below_step HB4.out hd5.below); clear hd5))
                all_goals
                  go_simp
                  go_wp2
                  go_ret2
                  exact ReQ.good HE.out rfl (by push_cast; rfl) (by have z9 := IntWalk.i64_in (n : Int) (by omega); rw [HN.out, z9, z7]; exact lit1_reads _ _) (HB5.out.alloc HB5.out.size _)
              · have v2 : hexV s[p + 1] = -1 := by unfold hexV; rw [if_neg c2]
                rw [v2] at HX2
                have HE : Hid (R = none) := Lib.hid (by rw [← hR, if_neg (fun h => c2 h.2)])
                clear v1 v2 hR c1 c2
                go_wp2_with (first | (go_at_call 31; refine (HT.out _).mono ?_; rintro e w1 ⟨rfl, hd1⟩; have HB1 := Lib.hid (below_step HB.out hd1.below); clear hd1) | (go_at_call 36; with_reducible refine (HX1.out _).mono ?_; rintro e w2 ⟨rfl, hd2⟩; have HB2 := Lib.hid (below_step HB1.out hd2.below); clear hd2) | (go_at_call 36; with_reducible refine (HX2.out _).mono ?_; rintro e w3 ⟨rfl, hd3⟩; have HB3 := Lib.hid (below_step HB2.out hd3.below); clear hd3))
                go_ret2
                exact ReQ.bad HE.out HB3.out
            · have v1 : hexV s[p] = -1 := by unfold hexV; rw [if_neg c1]
              rw [v1] at HX1
              have HE : Hid (R = none) := Lib.hid (by rw [← hR, if_neg (fun h => c1 h.1)])
              clear v1 hR c1
              go_wp2_with (first | (go_at_call 31; refine (HT.out _).mono ?_; rintro e w1 ⟨rfl, hd1⟩; have HB1 := Lib.hid (below_step HB.out hd1.below); clear hd1) | (go_at_call 36; with_reducible refine (HX1.out _).mono ?_; rintro e w2 ⟨rfl, hd2⟩; have HB2 := Lib.hid (below_step HB1.out hd2.below); clear hd2))
              go_ret2
              exact ReQ.bad HE.out HB2.out
          · have h1' : (s.size : Int) ≤ (p : Int) + 1 := by omega
            have HE : Hid (R = none) := Lib.hid (by rw [← HR.out, drop_end s (p + 1) (by omega), esc_one_eq _ hl])
            clear hu hl HR HD
            go_wp2_with (go_at_call 31; refine (HT.out _).mono ?_; rintro e w1 ⟨rfl, hd1⟩; have HB1 := Lib.hid (below_step HB.out hd1.below); clear hd1)
            go_ret2
            exact ReQ.bad HE.out HB1.out
        · rw [hu] at HT
          have hpl := pre_len _ _ hu
          rw [List.length_drop, len_data] at hpl
          have hpl2 : p + 2 ≤ s.size := by simp at hpl; omega
          have HRU : Hid (ru s p (p + 2) true 0 = R) := Lib.hid (by
            have e1 := HR.out
            rw [← HD.out, esc_ru s p s[p] hl hlt rfl hu] at e1
            exact e1)
          clear hu hl hpl HR HD
          go_wp2_with (go_at_call 31; refine (HT.out _).mono ?_; rintro e w1 ⟨rfl, hd1⟩; have HB1 := Lib.hid (below_step HB.out hd1.below); clear hd1; have HA : Hid (Er2 s p w R (.int .i64 ((p : Int) + 2)) (.int .i64 0) (.int .u8 95) w1) := Lib.hid ⟨p + 2, 0, 95, by push_cast; rfl, rfl, rfl, by omega, hpl2, by omega, HB1.out, HRU.out⟩)
          go_loopw [1, 9, 10] (Er2 s p w R) (fun v1 _ _ _ => s.size - numV v1)
          case atStart => exact HA.out
          case round =>
            obtain ⟨m, n, b, rfl, rfl, rfl, hpm, hm, hn, hb2, hru⟩ := hrel
            have HB2 := Lib.hid hb2
            have HU := Lib.hid hru
            have hm0 : 0 ≤ (m : Int) := by omega
            have hn0 : 0 ≤ (n : Int) := by omega
            clear hb2 hru HA HRU HB1 HB HT
            have HUT := Lib.hid (fun w => utfR_c n (by omega) w)
            by_cases hml : m < s.size
            · have hml' : (m : Int) < (s.size : Int) := by omega
              by_cases h125 : s[m] = 125
              · have q125 : ((s[m].toNat : Int) != 125) = false := by rw [h125]; decide
                have hR := HU.out
                rw [ru_shut s p m n _ hml h125] at hR
                clear h125 HU
                cases hb95 : (b == 95)
                · have q95 : ((b.toNat : Int) == 95) = false := by
                    refine byte_ne b 95 ?_
                    intro h
                    rw [h] at hb95
                    exact absurd hb95 (by decide)
                  rw [hb95, if_neg (by decide)] at hR
                  obtain ⟨L, hL⟩ : ∃ L, (nb (utfR n)).length = L := ⟨_, rfl⟩
                  by_cases hnil : utfR n = []
                  · have HE : Hid (R = none) := Lib.hid (by rw [← hR, if_pos hnil])
                    have hL0 : L = 0 := by rw [← hL, hnil]; rfl
                    subst hL0
                    rw [hL] at HUT
                    clear hR hb95 hL
                    go_wp2_with (go_at_call 37; with_reducible refine (HUT.out _).mono ?_; rintro e w3 ⟨A, c, rfl, hlc, hrd, hb3⟩; have HB3 := Lib.hid (below_step HB2.out hb3); have HRD := Lib.hid hrd; clear hb3 hrd)
                    go_ret2
                    exact ReQ.bad HE.out HB3.out
                  · have HE : Hid (R = some (utfR n, m - p + 1)) := Lib.hid (by rw [← hR, if_neg hnil])
                    have hL0 : ((L : Int) == 0) = false := by
                      rw [← hL]
                      simp only [beq_eq_false_iff_ne, ne_eq]
                      intro h
                      apply hnil
                      have : (nb (utfR n)).length = 0 := by omega
                      rw [nb_len] at this
                      exact List.length_eq_zero_iff.1 this
                    rw [hL] at HUT
                    clear hR hb95 hnil
                    go_wp2_with (go_at_call 37; with_reducible refine (HUT.out _).mono ?_; rintro e w3 ⟨A, c, rfl, hlc, hrd, hb3⟩; have HB3 := Lib.hid (below_step HB2.out hb3); have HRD := Lib.hid hrd; clear hb3 hrd)
                    go_ret2
                    exact ReQ.good HE.out hL.symm (by have := hpm; omega) (by rw [hL]; exact HRD.out) HB3.out
                · have q95 : ((b.toNat : Int) == 95) = true := by
                    have : b = 95 := by simpa using hb95
                    rw [this]; decide
                  rw [hb95, if_pos rfl] at hR
                  have HE := Lib.hid hR.symm
                  clear hR hb95
                  go_wp2_with (go_at_call 37; with_reducible refine (HUT.out _).mono ?_; rintro e w3 ⟨A, c, rfl, hlc, hrd, hb3⟩; have HB3 := Lib.hid (below_step HB2.out hb3); have HRD := Lib.hid hrd; clear hb3 hrd)
                  go_ret2
                  exact ReQ.bad HE.out HB3.out
              · have q125 : ((s[m].toNat : Int) != 125) = true := by
                  have := byte_ne _ _ h125
                  simp only [bne, Bool.not_eq_true', beq_eq_false_iff_ne, ne_eq] at this ⊢
                  exact this
                by_cases h95 : s[m] = 95
                · have q : ((s[m].toNat : Int) == 95) = true := by rw [h95]; decide
                  have q' : ((s[m].toNat : Int) != 95) = false := by rw [h95]; decide
                  cases hb95 : (b == 95)
                  · have q95 : ((b.toNat : Int) == 95) = false := by
                      refine byte_ne b 95 ?_
                      intro h
                      rw [h] at hb95
                      exact absurd hb95 (by decide)
                    have HN : Hid (ru s p (m + 1) (s[m] == 95) n = R) := Lib.hid (by
                      rw [← HU.out, hb95]
                      refine (ru_on s p m n n false _ hpm hml h125 (fun t => ?_)).symm
                      rw [h95]
                      rfl)
                    clear h95 h125 hb95 HU HUT
                    go_wp2
                    go_roundw
                    case rel => exact ⟨m + 1, n, s[m], by push_cast; rfl, rfl, rfl, by omega, by omega, hn, HB2.out, HN.out⟩
                    case measure => simp only [numV]; omega
                  · have q95 : ((b.toNat : Int) == 95) = true := by
                      have : b = 95 := by simpa using hb95
                      rw [this]; decide
                    have HE : Hid (R = none) := Lib.hid (by
                      rw [← HU.out, hb95]
                      refine ru_bad s p m n true hml h125 (fun t => ?_)
                      rw [h95]
                      rfl)
                    clear h95 h125 hb95 HU HUT
                    go_wp2
                    go_ret2
                    exact ReQ.bad HE.out HB2.out
                · have q : ((s[m].toNat : Int) == 95) = false := byte_ne _ _ h95
                  have q' : ((s[m].toNat : Int) != 95) = true := by
                    simp only [bne, Bool.not_eq_true', beq_eq_false_iff_ne, ne_eq] at q ⊢
                    exact q
                  have HX := Lib.hid (fun w => hexR_c s[m] _ rfl w)
                  by_cases hx : ishex s[m] = true
                  · have v1 : hexV s[m] = (dval s[m] : Int) := by unfold hexV; rw [if_pos hx]
                    rw [v1] at HX
                    have b1 := dval_lt s[m] hx
                    have HN : Hid (ru s p (m + 1) (s[m] == 95) (if n < 10000000 then n * 16 + dval s[m] else n) = R) := Lib.hid (by
                      rw [← HU.out]
                      refine (ru_on s p m n _ _ _ hpm hml h125 (fun t => ?_)).symm
                      have e95 : (s[m] == 95) = false := by simpa using h95
                      rw [e95]
                      show (if s[m] = 95 then _ else _) = _
                      rw [if_neg h95, if_pos hx])
                    obtain ⟨x, hx⟩ : ∃ x, dval s[m] = x := ⟨_, rfl⟩
                    rw [hx] at HX HN b1
                    have q1 : 0 ≤ (x : Int) := by omega
                    clear h95 h125 HU v1 hx
                    by_cases hbig : n < 10000000
                    · rw [if_pos hbig] at HN
                      have hbig' : ((n : Int) < 10000000) = True := eq_true (by omega)
                      have z1 : IntKind.i64.wrap ((n : Int) * 16) = (n : Int) * 16 := IntWalk.i64_in _ (by omega)
                      have z2 : IntKind.i64.wrap ((n : Int) * 16 + (x : Int)) = (n : Int) * 16 + (x : Int) := IntWalk.i64_in _ (by omega)
                      have HNN : Hid (n * 16 + x < 160000016) := Lib.hid (by omega)
                      clear HUT hn hbig
                      go_wp2_with (first | (go_at_call 36; with_reducible refine (HX.out _).mono ?_; rintro e w4 ⟨rfl, hd4⟩; have HB4 := Lib.hid (below_step HB2.out hd4.below); clear hd4) | (go_at_call 36; with_reducible refine (HX.out _).mono ?_; rintro e w5 ⟨rfl, hd5⟩; have HB5 := Lib.hid (below_step HB4.out hd5.below); clear hd5))
                      go_roundw
                      case rel => exact ⟨m + 1, n * 16 + x, s[m], by push_cast; rfl, by push_cast; rfl, rfl, by omega, by omega, HNN.out, HB5.out, HN.out⟩
                      case measure => simp only [numV]; omega
                    · rw [if_neg hbig] at HN
                      have hbig' : ((n : Int) < 10000000) = False := eq_false (by omega)
                      have HNN := Lib.hid hn
                      clear HUT hn hbig
                      go_wp2_with (first | (go_at_call 36; with_reducible refine (HX.out _).mono ?_; rintro e w4 ⟨rfl, hd4⟩; have HB4 := Lib.hid (below_step HB2.out hd4.below); clear hd4) | (go_at_call 36; with_reducible refine (HX.out _).mono ?_; rintro e w5 ⟨rfl, hd5⟩; have HB5 := Lib.hid (below_step HB4.out hd5.below); clear hd5))
                      go_roundw
                      case rel => exact ⟨m + 1, n, s[m], by push_cast; rfl, rfl, rfl, by omega, by omega, HNN.out, HB4.out, HN.out⟩
                      case measure => simp only [numV]; omega
                  · have v1 : hexV s[m] = -1 := by unfold hexV; rw [if_neg hx]
                    rw [v1] at HX
                    have HE : Hid (R = none) := Lib.hid (by
                      rw [← HU.out]
                      refine ru_bad s p m n _ hml h125 (fun t => ?_)
                      show (if s[m] = 95 then _ else _) = _
                      rw [if_neg h95, if_neg hx])
                    clear h95 h125 HU v1 hx HUT
                    go_wp2_with (first | (go_at_call 36; with_reducible refine (HX.out _).mono ?_; rintro e w4 ⟨rfl, hd4⟩; have HB4 := Lib.hid (below_step HB2.out hd4.below); clear hd4) | (go_at_call 36; with_reducible refine (HX.out _).mono ?_; rintro e w5 ⟨rfl, hd5⟩; have HB5 := Lib.hid (below_step HB4.out hd5.below); clear hd5))
                    go_ret2
                    exact ReQ.bad HE.out HB4.out
            · have hge : (s.size : Int) ≤ (m : Int) := by omega
              have HE : Hid (R = none) := Lib.hid (by rw [← HU.out, ru_end s p m n _ hml])
              clear HU hml
              go_wp2_with (go_at_call 37; with_reducible refine (HUT.out _).mono ?_; rintro e w3 ⟨A, c, rfl, hlc, hrd, hb3⟩; have HB3 := Lib.hid (below_step HB2.out hb3); have HRD := Lib.hid hrd; clear hb3 hrd)
              go_ret2
              exact ReQ.bad HE.out HB3.out
  · have hge : (s.size : Int) ≤ (p : Int) := by omega
    have HE : Hid (R = none) := Lib.hid (by rw [← hR, drop_end s p (by omega)]; rfl)
    clear hR hlt
    go_enter Tryd.func32, Tryd.ntmps32
    go_wp2
    go_ret2
    exact ReQ.bad HE.out (Below.refl _ _)
end Go.Proofs.YtjecdciabpjgcaaDoor.Lx

namespace Go.Proofs.YtjecdciabpjgcaaDoor.Lx
set_option linter.unusedVariables false
set_option linter.unusedSimpArgs false
open Go.RowKit Go.Proofs.YtjecdciabpjgcaaDoorW.PrintWords Go.Proofs.YtjecdciabpjgcaaDoor.PLx Go.Proofs.YtjecdciabpjgcaaDoor.Lb

structure RtQ (s : ByteArray) (w : World) (R : Option (List UInt8 × List UInt8)) (e : Ending) (w' : World) : Prop where mk ::
  (out : Below w.heap.size w w' ∧ ((R = none ∧ e = .returned (.tuple #[.string ⟨#[]⟩, .int .i64 (-1)])) ∨
     ∃ x n, n ≤ s.size ∧ R = some (x, s.data.toList.drop n) ∧ e = .returned (.tuple #[.string ⟨x.toArray⟩, .int .i64 ((n : Nat) : Int)])))
theorem RtQ.bad {s : ByteArray} {w w' : World} {R : Option (List UInt8 × List UInt8)} (h : R = none) (hb : Below w.heap.size w w') : RtQ s w R (.returned (.tuple #[.string ⟨#[]⟩, .int .i64 (-1)])) w' := ⟨hb, .inl ⟨h, rfl⟩⟩
theorem RtQ.good {s : ByteArray} {w w' : World} {R : Option (List UInt8 × List UInt8)} {x : List UInt8} {n : Nat} {m : Int} (h : R = some (x, s.data.toList.drop n)) (hn : n ≤ s.size) (hm : m = (n : Int)) (hb : Below w.heap.size w w') : RtQ s w R (.returned (.tuple #[.string ⟨x.toArray⟩, .int .i64 m])) w' := by
  subst hm
  exact ⟨hb, .inr ⟨x, n, hn, h, rfl⟩⟩
def RtR (s : ByteArray) (w : World) (R : Option (List UInt8 × List UInt8)) (v1 v6 : Value) (wr : World) : Prop :=
  ∃ (n f : Nat) (out : List UInt8), v1 = .int .i64 (n : Int) ∧ n ≤ s.size ∧ Below w.heap.size w wr ∧ s.size - n < f ∧ wr.ownsRow w.heap.size 5 1 v6 (nb out).length (nums .u8 (nb out)) ∧ out.length ≤ 4 * n ∧ str f (s.data.toList.drop n) out = R
set_option maxRecDepth 1000000 in
set_option maxHeartbeats 4000000 in
theorem refStr_c (s : ByteArray) (n : Nat) (hn : n < s.size) (hs : s.size ≤ 1000000) (w : World) (R : Option (List UInt8 × List UInt8)) (hR : str (s.size - n) (s.data.toList.drop (n + 1)) [] = R) :
    Calls Tryd.prog 23 #[.string s, .int .i64 (n : Int)] w (RtQ s w R) := by
  have HA : Hid (RtR s w R (.int .i64 ((n : Int) + 1)) (.slice none 0 0) w) := Lib.hid
    ⟨n + 1, s.size - n, [], by push_cast; rfl, by omega, Below.refl _ _, by omega, own_nil _ _ _ _, by simp, hR⟩
  have hn' : (n : Int) < (s.size : Int) := by omega
  have hn0 : 0 ≤ (n : Int) := by omega
  clear hR
  go_enter Tryd.func23, Tryd.ntmps23
  go_wp2
  go_loopw [1, 6] (RtR s w R) (fun v1 _ _ => s.size - numV v1)
  case atStart => exact HA.out
  case round =>
    obtain ⟨n, f, out, rfl, hn, hb, hf, ho, hol, hc⟩ := hrel
    have HB := Lib.hid hb
    have HO := Lib.hid ho
    obtain ⟨f, rfl⟩ : ∃ k, f = k + 1 := ⟨f - 1, by omega⟩
    have hi0 : 0 ≤ (n : Int) := by omega
    clear hb ho HA
    by_cases hlt : n < s.size
    · have hlt' : (n : Int) < (s.size : Int) := by omega
      have hdr := drop_at s n hlt
      rw [hdr] at hc
      have HC := Lib.hid hc
      have hx := UInt8.toNat_lt s[n]
      clear hc hdr
      by_cases c34 : s[n] = 34
      · have HE : Hid (R = some (out, s.data.toList.drop (n + 1))) := Lib.hid (by have := HC.out; rw [c34, str_end] at this; exact this.symm)
        have hq : ((s[n].toNat : Int) == 34) = true := by rw [c34]; decide
        have hcv : (convert 63 9 u6).run Tryd.prog wr = .ok (.string ⟨out.toArray⟩) wr := by
          have := own_string (P := Tryd.prog) (src := 63) (dst := 9) Tryd.underlying63 Tryd.underlying5 Tryd.underlying9 HO.out
          rw [str_nb] at this
          exact this
        clear c34
        go_wp2
        go_ret2
        exact RtQ.good HE.out (by omega) (by push_cast; rfl) HB.out
      · have hq : ((s[n].toNat : Int) == 34) = false := byte_ne _ 34 c34
        by_cases cb : s[n] < 32 ∨ s[n] = 127
        · have HE : Hid (R = none) := Lib.hid (by have := HC.out; rw [str_bad _ _ _ _ c34 cb] at this; exact this.symm)
          rcases cb with cb | cb
          · have hb : (s[n].toNat : Int) < 32 := by have := UInt8.lt_iff_toNat_lt.1 cb; have e : (32 : UInt8).toNat = 32 := rfl; omega
            clear c34 cb
            go_wp2
            go_ret2
            exact RtQ.bad HE.out HB.out
          · have hb : 32 ≤ (s[n].toNat : Int) := by rw [cb]; decide
            have hb2 : ((s[n].toNat : Int) == 127) = true := by rw [cb]; decide
            clear c34 cb
            go_wp2
            go_ret2
            exact RtQ.bad HE.out HB.out
        · have hb : 32 ≤ (s[n].toNat : Int) := by
            rcases Nat.lt_or_ge s[n].toNat 32 with h | h
            · exact absurd (.inl (UInt8.lt_iff_toNat_lt.2 h)) cb
            · omega
          have hb2 : ((s[n].toNat : Int) == 127) = false := byte_ne _ 127 (fun h => cb (.inr h))
          by_cases c92 : s[n] = 92
          · have hq2 : ((s[n].toNat : Int) == 92) = true := by rw [c92]; decide
            obtain ⟨r, hr⟩ : ∃ r, esc (s.data.toList.drop (n + 1)) = r := ⟨_, rfl⟩
            have HE0 : Hid (r = none → R = none) := Lib.hid (fun h => by have := HC.out; rw [c92, str_esc, hr, h] at this; exact this.symm)
            have HE1 : Hid (∀ b m, r = some (b, m) → str f (s.data.toList.drop (n + 1 + m)) (out ++ b) = R ∧ 1 ≤ m ∧ n + 1 + m ≤ s.size ∧ b.length ≤ 4) := Lib.hid (fun b m h => by
              have := HC.out
              rw [c92, str_esc, hr, h] at this
              simp only [List.drop_drop] at this
              have hp := esc_pos _ _ _ (hr.trans h)
              rw [List.length_drop, len_data] at hp
              exact ⟨this, hp.1, by omega, esc_len _ _ _ (hr.trans h)⟩)
            have HES := Lib.hid (fun w => refEsc_c s (n + 1) (by omega) hs w r hr)
            have e1 : (((n + 1 : Nat)) : Int) = (n : Int) + 1 := by push_cast; rfl
            rw [e1] at HES
            clear hr c92 cb c34 e1
            go_wp2_with fail
            refine (HES.out _).mono ?_
            intro e w1 hq
            obtain ⟨hb1, hor⟩ := hq.out
            have HB1 := Lib.hid (below_step HB.out hb1)
            have HO1 := Lib.hid (pw_own_below HO.out hb1)
            clear hb1 hq
            rcases hor with ⟨hrn, he⟩ | ⟨b, m, A, c, hrs, he, hrd⟩
            · subst he
              have HE := Lib.hid (HE0.out hrn)
              clear HE1 HE0
              go_wp2
              go_ret2
              exact RtQ.bad HE.out HB1.out
            · subst he
              obtain ⟨e1, e2, e3, e4⟩ := HE1.out b m hrs
              have HE := Lib.hid e1
              have HRD := Lib.hid hrd
              have hm0 : 0 ≤ ((n + 1 + m : Nat) : Int) := by omega
              have HLEN : Hid (((nb out).length + (nb b).length) * 1 ≤ 140737488355328) := Lib.hid (by rw [nb_len, nb_len]; omega)
              clear e1 HE1 HE0 hrd
              go_wp2_with (at_builtin; go_loud (refine print_append_row (w0 := w1) (W := w1) w.heap.size rfl (.tmp 42) (.tmp 43) 63 5 .u8 1 rfl Tryd.underlying63 info5 (by decide) u6 (nb out) (nb b) A (nb b).length c rfl rfl HO1.out HRD.out (Below.refl _ _) HB1.out.size HLEN.out ?_); intro v1 w2 hown hbl hg hat; have HO2 := Lib.hid hown; have HB2 := Lib.hid (HB1.out.trans hbl); clear hown hbl hg hat)
              go_roundw
              case rel => exact ⟨n + 1 + m, f, out ++ b, by push_cast; rfl, by omega, HB2.out, by omega, by rw [nb_app]; exact HO2.out, by simp; omega, HE.out⟩
              case measure => simp only [numV]; omega
          · have hq2 : ((s[n].toNat : Int) == 92) = false := byte_ne _ 92 c92
            have HE : Hid (str f (s.data.toList.drop (n + 1)) (out ++ [s[n]]) = R) := Lib.hid (by have := HC.out; rw [str_on _ _ _ _ c34 cb c92] at this; exact this)
            have HL1 := Lib.hid (fun (W : World) => lit1_reads W s[n].toNat)
            have HLEN : Hid (((nb out).length + 1) * 1 ≤ 140737488355328) := Lib.hid (by rw [nb_len]; omega)
            clear c34 cb c92
            go_wp2_with (at_builtin; go_loud (refine print_append_row (w0 := _) w.heap.size rfl (.tmp 46) (.tmp 48) 63 5 .u8 1 rfl Tryd.underlying63 info5 (by decide) u6 (nb out) [(s[n].toNat : Int)] _ 1 1 rfl rfl (pw_own_below HO.out ((Below.refl _ _).alloc (Nat.le_refl _) _)) (HL1.out _) (Below.refl _ _) (by have := HB.out.size; simp; omega) HLEN.out ?_); intro v1 w1 hown hbl hg hat; have HO1 := Lib.hid hown; have HB1 := Lib.hid ((HB.out.alloc HB.out.size _).trans hbl); clear hown hbl hg hat)
            go_roundw
            case rel => exact ⟨n + 1, f, out ++ [s[n]], by push_cast; rfl, by omega, HB1.out, by omega, by rw [nb_app]; exact HO1.out, by simp; omega, HE.out⟩
            case measure => simp only [numV]; omega
    · have HE : Hid (R = none) := Lib.hid (by rw [drop_end s n (by omega), str_nil] at hc; exact hc.symm)
      have hge : (s.size : Int) ≤ (n : Int) := by omega
      clear hlt hc
      go_wp2
      go_ret2
      exact RtQ.bad HE.out HB.out
end Go.Proofs.YtjecdciabpjgcaaDoor.Lx

namespace Go.Proofs.YtjecdciabpjgcaaDoor.Lx
set_option linter.unusedVariables false
set_option linter.unusedSimpArgs false
open Go.RowKit Go.Proofs.YtjecdciabpjgcaaDoorW.PrintWords Go.Proofs.YtjecdciabpjgcaaDoor.PLx Go.Proofs.YtjecdciabpjgcaaDoor.Lb

def zero32 : Value := .agg #[.int .i64 0, .string ⟨#[]⟩, .int .i64 0]
theorem info32 : (Tryd.prog.info? 32).map (fun i => (i.zero, i.size, i.bytes)) = some (some zero32, 3, 32) := by kernel_rfl
/-- append(v, k), v a row of one's own; k's cells are a literal's (the reference's words). -/
theorem append_t2 (W : World) (base : Nat) (ks : List Tok) (v : Value) (k : Tok) (hb : base ≤ W.heap.size) (hl : ks.length ≤ 2000000) (HO : W.ownsRow base 32 3 v ks.length (tcl ks)) :
    ∃ v1 w1, (Builtin.append_ #[27, 27] 27 #[v, .slice (some ⟨W.heap.size, 0, none⟩) 1 1]).run Tryd.prog (W.alloc (Obj.cells #[.int .i64 k.kind, .string ⟨k.text.toArray⟩, .int .i64 (k.at_ : Int)] 32)) = .ok v1 w1 ∧
      w1.ownsRow base 32 3 v1 (ks ++ [k]).length (tcl (ks ++ [k])) ∧ (W.alloc (Obj.cells #[.int .i64 k.kind, .string ⟨k.text.toArray⟩, .int .i64 (k.at_ : Int)] 32)).grownBy w1 v.ownBlock := by
  obtain ⟨i, hi, hz⟩ := Option.map_eq_some_iff.1 info32
  simp only [Prod.mk.injEq] at hz
  obtain ⟨hz0, hz1, hz2⟩ := hz
  have hb1 : Below W.heap.size W (W.alloc (Obj.cells #[.int .i64 k.kind, .string ⟨k.text.toArray⟩, .int .i64 (k.at_ : Int)] 32)) := (Below.refl _ _).alloc (Nat.le_refl _) _
  have hn := heap_alloc_new W (Obj.cells #[.int .i64 k.kind, .string ⟨k.text.toArray⟩, .int .i64 (k.at_ : Int)] 32)
  obtain ⟨v1, w1, hr, h2, h3, _, _⟩ := run_append_own_at (P := Tryd.prog) _ base 27 27 32 i zero32 3 32 Tryd.underlying27 hi hz0 hz1 hz2 rfl (by decide) v ks.length (tcl ks) (pw_own_below HO hb1)
    ⟨W.heap.size, 0, none⟩ 1 1 (tc k) rfl (fun j u hu => by
      have hj : j < 3 := by
        rcases Nat.lt_or_ge j 3 with h | h
        · exact h
        · rw [List.getElem?_eq_none (by exact h)] at hu; cases hu
      have hc := blk_cell hn j
      have ha : (⟨W.heap.size, 0, none⟩ : Addr).add j = ⟨W.heap.size, j, none⟩ := by unfold Addr.add; simp; intro h; exact h.symm
      rw [ha, hc]
      have : j = 0 ∨ j = 1 ∨ j = 2 := by omega
      rcases this with rfl | rfl | rfl <;> exact hu) (tc_one k) (by simp only [maxLen]; omega) (by omega) (Nat.le_trans hb hb1.size)
  refine ⟨v1, w1, hr, ?_, h3⟩
  rw [tcl_app, List.length_append]
  have e : tcl [k] = tc k := by unfold tcl; simp
  rw [e]
  exact h2
theorem cm_suf : ∀ (f d : Nat) (l r : List UInt8), cm f d l = some r → r <:+ l
  | 0, d, l, r, h => by cases h
  | f + 1, d, [], r, h => by cases h
  | f + 1, d, c :: t, r, h => by
    cases h1 : Lib.hasPrefix (c :: t) [40, 59]
    · cases h2 : Lib.hasPrefix (c :: t) [59, 41]
      · rw [cm_on f d _ (by simp) h1 h2] at h
        exact (cm_suf f d _ r h).trans (List.drop_suffix _ _)
      · rw [cm_shut f d _ h1 h2] at h
        split at h
        · simp only [Option.some.injEq] at h
          rw [← h]
          exact List.drop_suffix _ _
        · exact (cm_suf f _ _ r h).trans (List.drop_suffix _ _)
    · rw [cm_open f d _ h1] at h
      exact (cm_suf f _ _ r h).trans (List.drop_suffix _ _)
theorem spc_suf : ∀ (f : Nat) (l r : List UInt8), spc f l = some r → r <:+ l
  | 0, l, r, h => by cases h
  | f + 1, [], r, h => by
    simp only [spc_nil, Option.some.injEq] at h
    rw [← h]
    exact List.suffix_refl _
  | f + 1, c :: t, r, h => by
    cases hw : isWs c
    · cases h1 : Lib.hasPrefix (c :: t) [59, 59]
      · cases h2 : Lib.hasPrefix (c :: t) [40, 59]
        · rw [spc_end f c t hw h1 h2] at h
          simp only [Option.some.injEq] at h
          rw [← h]
          exact List.suffix_refl _
        · rw [spc_com f c t hw h1 h2] at h
          split at h
          · cases h
          · rename_i r1 hc
            exact (spc_suf f _ r h).trans (cm_suf _ _ _ _ hc)
      · rw [spc_line f c t hw h1] at h
        exact (spc_suf f _ r h).trans (List.dropWhile_suffix _)
    · rw [spc_ws f c t hw] at h
      exact (spc_suf f _ r h).trans (List.suffix_cons _ _)
theorem spc_at (s : ByteArray) (f n : Nat) (hn : n ≤ s.size) (l : List UInt8) (h : spc f (s.data.toList.drop n) = some l) : ∃ m, n ≤ m ∧ m ≤ s.size ∧ l = s.data.toList.drop m ∧ spAt s.size (some l) = (m : Int) := by
  have hs := spc_suf _ _ _ h
  have hl := hs.length_le
  have he := List.suffix_iff_eq_drop.1 hs
  rw [List.drop_drop] at he
  rw [List.length_drop, len_data] at he hl
  refine ⟨n + (s.size - n - l.length), by omega, by omega, he, ?_⟩
  show ((s.size - l.length : Nat) : Int) = _
  omega
structure RkQ (w : World) (R : Option (List Tok)) (e : Ending) (w' : World) : Prop where mk ::
  (out : Below w.heap.size w w' ∧ ((R = none ∧ e = .returned (.tuple #[.slice none 0 0, .int .i64 70])) ∨ ∃ ks v, R = some ks ∧ e = .returned (.tuple #[v, .int .i64 0]) ∧ w'.ownsRow w.heap.size 32 3 v ks.length (tcl ks)))
theorem RkQ.bad {w w' : World} {R : Option (List Tok)} (h : R = none) (hb : Below w.heap.size w w') : RkQ w R (.returned (.tuple #[.slice none 0 0, .int .i64 70])) w' := ⟨hb, .inl ⟨h, rfl⟩⟩
def numM (N : Nat) : Value → Nat
  | .int _ n => if n < 0 then 0 else N + 1 - n.toNat
  | _ => 0
def RkR (s : ByteArray) (w : World) (R : Option (List Tok)) (v5 v6 v7 : Value) (wr : World) : Prop :=
  ∃ (n f : Nat) (e : Int) (ks : List Tok), v7 = .int .i64 (spAt s.size (spc (s.size - n + 1) (s.data.toList.drop n))) ∧ v6 = .int .i64 e ∧ -1 ≤ e ∧ e ≤ 2000000 ∧ n ≤ s.size ∧ ks.length ≤ n ∧ Below w.heap.size w wr ∧ s.size - n < f ∧ wr.ownsRow w.heap.size 32 3 v5 ks.length (tcl ks) ∧
    (match toks s.size f (s.data.toList.drop n) e with | none => none | some k2 => some (ks ++ k2)) = R
/-- What the branches leave: the word in its block, where it ends; below 0: it is none. -/
def RkJ (s : ByteArray) (w : World) (m : Nat) (X : Option (Tok × List UInt8)) (W : World) (G : Nat) (v9 : Value) (wc : World) : Prop :=
  Below W.heap.size W wc ∧ ∃ (k : Tok) (z : Int), v9 = .int .i64 z ∧ wc.heap[G]? = some (.cells #[.int .i64 k.kind, .string ⟨k.text.toArray⟩, .int .i64 (m : Int)] 32 (0, 0)) ∧ k.at_ = m ∧ -1 ≤ z ∧ (k.kind = 0 ∨ k.kind = 1 ∨ k.kind = 2 ∨ k.kind = 3) ∧
    ((X = none ∧ z = -1) ∨ ∃ t : Nat, z = (t : Int) ∧ m < t ∧ t ≤ s.size ∧ X = some (k, s.data.toList.drop t))
def strN (m : Nat) : Option (List UInt8 × List UInt8) → Option (Tok × List UInt8)
  | none => none
  | some (x, r) => some (⟨3, x, m⟩, r)
def SgR (s : ByteArray) (m : Nat) (W : World) (v9 : Value) (wr : World) : Prop :=
  ∃ t : Nat, v9 = .int .i64 (t : Int) ∧ m ≤ t ∧ t ≤ s.size ∧ Below W.heap.size W wr ∧ (s.data.toList.drop m).takeWhile isSign = (s.data.toList.drop m).take (t - m) ++ (s.data.toList.drop t).takeWhile isSign ∧ (s.data.toList.drop m).dropWhile isSign = (s.data.toList.drop t).dropWhile isSign
theorem nxt_40 (p : Nat) (t : List UInt8) : nxt p (40 :: t) = some (⟨0, [40], p⟩, t) := by
  simp only [nxt]
  rw [if_pos True.intro]
theorem nxt_41 (p : Nat) (t : List UInt8) : nxt p (41 :: t) = some (⟨1, [41], p⟩, t) := by
  simp only [nxt]
  rw [if_neg (by decide), if_pos True.intro]
theorem numM_at (N m : Nat) : numM N (.int .i64 (m : Int)) = N + 1 - m := by
  unfold numM
  simp only
  rw [if_neg (by omega), Int.toNat_natCast]
theorem numM_neg (N : Nat) : numM N (.int .i64 (-1)) = 0 := rfl
theorem numM_lt (s : ByteArray) (m t : Nat) (hm : m < t) (ht : t ≤ s.size) : numM s.size (.int .i64 (spAt s.size (spc (s.size - t + 1) (s.data.toList.drop t)))) < numM s.size (.int .i64 (m : Int)) := by
  rw [numM_at]
  cases h : spc (s.size - t + 1) (s.data.toList.drop t) with
  | none =>
    show numM s.size (.int .i64 (-1)) < _
    rw [numM_neg]
    omega
  | some l =>
    obtain ⟨m', h2, h3, _, h5⟩ := spc_at s _ t ht l h
    rw [h5, numM_at]
    omega
set_option maxRecDepth 1000000 in
set_option maxHeartbeats 16000000 in
theorem refTok_c (s : ByteArray) (hs : s.size ≤ 1000000) (w : World) : Calls Tryd.prog 11 #[.string s] w (RkQ w (tokF s)) := by
  obtain ⟨R, hR⟩ : ∃ R, tokF s = R := ⟨_, rfl⟩
  rw [hR]
  unfold tokF at hR
  have hsz : (s.size : Int) ≤ 1048576 := by omega
  have HV := Lib.hid (fun w => bodkinref01_Valid.calls _ s _ w (Pure.refValid_f s (by omega) _ (Nat.le_refl _)))
  have HSP := Lib.hid (fun n hn w => refSpace_c s n hn hs w _ rfl)
  cases hval : validG s s.size 0
  · rw [hval, if_neg (by decide)] at hR
    have HE := Lib.hid hR.symm
    rw [hval] at HV
    clear hval hR HSP
    go_enter Tryd.func11, Tryd.ntmps11
    go_wp2_with (go_at_call 21; refine (HV.out _).mono ?_; rintro e w1 ⟨rfl, hd1⟩; have HB1 := Lib.hid hd1.below; clear hd1)
    go_ret2
    exact RkQ.bad HE.out HB1.out
  · rw [hval, if_pos rfl] at hR
    have HR := Lib.hid hR
    rw [hval] at HV
    clear hval hR
    go_enter Tryd.func11, Tryd.ntmps11
    go_wp2_with (first | (go_at_call 21; refine (HV.out _).mono ?_; rintro e w1 ⟨rfl, hd1⟩; have HB1 := Lib.hid hd1.below; clear hd1) | (go_at_call 22; refine (HSP.out 0 (Nat.zero_le _) _).mono ?_; intro e w2 hq; obtain ⟨he, hb⟩ := hq.out; subst he; have HB2 := Lib.hid (below_step HB1.out hb); clear hq hb))
    have HA : Hid (RkR s w R (.slice none 0 0) (.int .i64 (-1)) (.int .i64 (spAt s.size (spc (s.size - 0 + 1) (s.data.toList.drop 0)))) w2) := Lib.hid ⟨0, s.size + 1, -1, [], rfl, rfl, by omega, by omega, Nat.zero_le _, Nat.le_refl _, HB2.out, by omega, own_nil _ _ _ _, by
      have := HR.out
      rw [List.drop_zero, this]
      cases R <;> rfl⟩
    go_loopw [5, 6, 7] (RkR s w R) (fun _ _ v7 _ => numM s.size v7)
    case atStart => exact HA.out
    case round =>
      obtain ⟨n, f, e, ks, rfl, rfl, he1, he2, hn, hkn, hb, hf, ho, hc⟩ := hrel
      obtain ⟨wr0, hwr0⟩ : ∃ x, x = wr := ⟨_, rfl⟩
      subst hwr0
      have HBR := Lib.hid hb
      have HO := Lib.hid ho
      obtain ⟨f, rfl⟩ : ∃ k, f = k + 1 := ⟨f - 1, by omega⟩
      have HC := Lib.hid hc
      have hll : (s.data.toList.drop n).length = s.size - n := by rw [List.length_drop, len_data]
      clear hb ho hc HA HB1 HB2 HR HV
      cases hS : spc (s.size - n + 1) (s.data.toList.drop n) with
      | none =>
        have HE : Hid (R = none) := Lib.hid (by
          have := HC.out
          rw [toks_none _ _ _ _ (by rw [hll, hS])] at this
          exact this.symm)
        have hsp : spAt s.size (none : Option (List UInt8)) = -1 := rfl
        rw [hsp]
        clear hS HC HSP
        go_wp2
        go_ret2
        exact RkQ.bad HE.out HBR.out
      | some l =>
        obtain ⟨m, hnm, hms, rfl, hsp⟩ := spc_at s _ n hn l hS
        rw [hsp]
        have hm0 : 0 ≤ (m : Int) := by omega
        by_cases hme : m < s.size
        · have hme' : (m : Int) < (s.size : Int) := by omega
          obtain ⟨X, hX⟩ : ∃ X, nxt m (s.data.toList.drop m) = X := ⟨_, rfl⟩
          have HX : Hid ((match toksN s.size f e m X with | none => none | some k2 => some (ks ++ k2)) = R) := Lib.hid (by
            have := HC.out
            rw [toks_at s f _ e m hme (by rw [hll, hS]), hX] at this
            exact this)
          have HDR := Lib.hid (drop_at s m hme)
          have HXX := Lib.hid hX
          clear hS HC hX hsp
          have hsl := sl_run s m (m + 1) ((m : Int) + 1) (by push_cast; rfl) (by omega) (by omega)
          rw [one_at s m hme] at hsl
          obtain ⟨W, hW⟩ : ∃ W, W = wr0.alloc (Obj.cells #[.int .i64 0, .string ⟨#[s[m]]⟩, .int .i64 (m : Int)] 32) := ⟨_, rfl⟩
          obtain ⟨g, hg⟩ : ∃ g, g = wr0.heap.size := ⟨_, rfl⟩
          have HGW : Hid (W.heap[g]? = some (.cells #[.int .i64 0, .string ⟨#[s[m]]⟩, .int .i64 (m : Int)] 32)) := Lib.hid (by rw [hW, hg]; exact heap_alloc_new wr0 _)
          have HWS : Hid (Below wr0.heap.size wr0 W) := Lib.hid (by rw [hW]; exact (Below.refl _ _).alloc (Nat.le_refl _) _)
          have HGG : Hid (wr0.heap.size ≤ g) := Lib.hid (Nat.le_of_eq hg.symm)
          go_upto_if 39 with fail
          rw [← hW, ← hg]
          have c0 : W.cell? ⟨g, 0, none⟩ = some (.int .i64 0) := (blk_cell HGW.out 0).trans rfl
          have f0 := blk_frozen HGW.out 0
          clear hW hg
          go_cut [9] (fun v9 wc => RkJ s w m X wr0 g v9 wc)
          case first =>
            by_cases c41 : s[m] = 41
            · have hq : ((s[m].toNat : Int) == 41) = true := by rw [c41]; decide
              have hXE : X = some (⟨1, [41], m⟩, s.data.toList.drop (m + 1)) := by rw [← HXX.out, HDR.out, c41, nxt_41]
              have HJ : Hid (RkJ s w m X wr0 g (.int .i64 ((m : Int) + 1)) (W.setCell ⟨g, 0, none⟩ (.int .i64 1))) := Lib.hid
                ⟨HWS.out.setCell HGG.out _, ⟨1, [41], m⟩, (m : Int) + 1, rfl, by have := blk_set HGW.out 0 (.int .i64 1); rw [c41] at this; simpa using this, rfl, by omega, .inr (.inl rfl), .inr ⟨m + 1, by push_cast; rfl, by omega, by omega, hXE⟩⟩
              clear c41 hXE
              go_wp2
              go_meet
              case rel => exact HJ.out
            · have hq1 : ((s[m].toNat : Int) == 41) = false := byte_ne _ 41 c41
              rw [hq1]
              by_cases c34 : s[m] = 34
              · have hq2 : ((s[m].toNat : Int) == 34) = true := by rw [c34]; decide
                obtain ⟨Z, hZ⟩ : ∃ Z, str (s.size - m) (s.data.toList.drop (m + 1)) [] = Z := ⟨_, rfl⟩
                have HST := Lib.hid (fun w => refStr_c s m hme hs w Z hZ)
                have hXE : X = strN m Z := by
                  rw [← HXX.out, HDR.out, c34, nxt_str, List.length_drop, len_data, show s.size - (m + 1) + 1 = s.size - m by omega, hZ]
                  cases Z <;> rfl
                have HZL : Hid (∀ x t, t ≤ s.size → Z = some (x, s.data.toList.drop t) → m < t) := Lib.hid (fun x t ht h => by
                  have := str_len _ _ _ _ _ (hZ.trans h)
                  rw [List.length_drop, List.length_drop, len_data] at this
                  omega)
                have HW1 : Hid (Below wr0.heap.size wr0 (W.setCell ⟨g, 0, none⟩ (.int .i64 3))) := Lib.hid (HWS.out.setCell HGG.out _)
                have HG1 : Hid ((W.setCell ⟨g, 0, none⟩ (.int .i64 3)).heap[g]? = some (.cells #[.int .i64 3, .string ⟨#[s[m]]⟩, .int .i64 (m : Int)] 32)) := Lib.hid (by have := blk_set HGW.out 0 (.int .i64 3); simpa using this)
                have HX3 := Lib.hid hXE
                clear c34 hZ hXE HXX
                go_wp2_with fail
                refine (HST.out _).mono ?_
                intro e1 w3 hq
                obtain ⟨hb3, hor⟩ := hq.out
                have HW3 : Hid (Below wr0.heap.size wr0 w3) := Lib.hid (below_step HW1.out hb3)
                have HG3 : Hid (w3.heap[g]? = some (.cells #[.int .i64 3, .string ⟨#[s[m]]⟩, .int .i64 (m : Int)] 32)) := Lib.hid ((hb3.block g (blk_lt HG1.out)).trans HG1.out)
                have c31 : w3.cell? ⟨g, 1, none⟩ = some (.string ⟨#[s[m]]⟩) := (blk_cell HG3.out 1).trans rfl
                have f31 := blk_frozen HG3.out 1
                clear hb3 hq HST c0 f0
                rcases hor with ⟨hz, he⟩ | ⟨x, t, ht, hz, he⟩
                · subst he
                  have HJ : Hid (RkJ s w m X wr0 g (.int .i64 (-1)) (w3.setCell ⟨g, 1, none⟩ (.string ⟨#[]⟩))) := Lib.hid
                    ⟨HW3.out.setCell HGG.out _, ⟨3, [], m⟩, -1, rfl, by have := blk_set HG3.out 1 (.string ⟨#[]⟩); simpa using this, rfl, by omega, .inr (.inr (.inr rfl)), .inl ⟨by rw [HX3.out, hz]; rfl, rfl⟩⟩
                  clear hz
                  go_wp2
                  go_meet
                  case rel => exact HJ.out
                · subst he
                  have hlt := HZL.out x t ht hz
                  have HJ : Hid (RkJ s w m X wr0 g (.int .i64 (t : Int)) (w3.setCell ⟨g, 1, none⟩ (.string ⟨x.toArray⟩))) := Lib.hid
                    ⟨HW3.out.setCell HGG.out _, ⟨3, x, m⟩, (t : Int), rfl, by have := blk_set HG3.out 1 (.string ⟨x.toArray⟩); simpa using this, rfl, by omega, .inr (.inr (.inr rfl)), .inr ⟨t, rfl, hlt, ht, by rw [HX3.out, hz]; rfl⟩⟩
                  clear hz
                  go_wp2
                  go_meet
                  case rel => exact HJ.out
              · have hq2 : ((s[m].toNat : Int) == 34) = false := byte_ne _ 34 c34
                by_cases c40 : s[m] = 40
                · have hq3 : ((s[m].toNat : Int) != 40) = false := by rw [c40]; decide
                  have hXE : X = some (⟨0, [40], m⟩, s.data.toList.drop (m + 1)) := by rw [← HXX.out, HDR.out, c40, nxt_40]
                  have HJ : Hid (RkJ s w m X wr0 g (.int .i64 ((m : Int) + 1)) W) := Lib.hid
                    ⟨HWS.out, ⟨0, [40], m⟩, (m : Int) + 1, rfl, by have := HGW.out; rw [c40] at this; simpa using this, rfl, by omega, .inl rfl, .inr ⟨m + 1, by push_cast; rfl, by omega, by omega, hXE⟩⟩
                  clear c40 hXE
                  go_wp2
                  go_meet
                  case rel => exact HJ.out
                · have hq3 : ((s[m].toNat : Int) != 40) = true := by
                    have := byte_ne _ _ c40
                    simp only [bne, Bool.not_eq_true', beq_eq_false_iff_ne, ne_eq] at this ⊢
                    exact this
                  have HX3 : Hid (X = if (s.data.toList.drop m).takeWhile isSign = [] then none else some (⟨2, (s.data.toList.drop m).takeWhile isSign, m⟩, (s.data.toList.drop m).dropWhile isSign)) := Lib.hid (by
                    rw [← HXX.out, HDR.out, nxt_at m s[m] _ c40 c41 c34])
                  have HSG := Lib.hid (fun (c : UInt8) w => bodkinref18_sign.calls 40 _ _ w (sgnR_f c))
                  have HW1 : Hid (Below wr0.heap.size wr0 (W.setCell ⟨g, 0, none⟩ (.int .i64 2))) := Lib.hid (HWS.out.setCell HGG.out _)
                  have HG1 : Hid ((W.setCell ⟨g, 0, none⟩ (.int .i64 2)).heap[g]? = some (.cells #[.int .i64 2, .string ⟨#[s[m]]⟩, .int .i64 (m : Int)] 32)) := Lib.hid (by have := blk_set HGW.out 0 (.int .i64 2); simpa using this)
                  clear c41 c34 c40 HXX
                  have HA : Hid (SgR s m (W.setCell ⟨g, 0, none⟩ (.int .i64 2)) (.int .i64 (m : Int)) (W.setCell ⟨g, 0, none⟩ (.int .i64 2))) := Lib.hid ⟨m, rfl, Nat.le_refl _, by omega, Below.refl _ _, by simp, rfl⟩
                  go_wp2
                  clear hq1 hq2 hq3
                  go_loopw [9] (SgR s m (W.setCell ⟨g, 0, none⟩ (.int .i64 2))) (fun v9 _ => s.size - numV v9)
                  case atStart => exact HA.out
                  case round =>
                    obtain ⟨t, rfl, hmt, hts, hbt, htw, hdw⟩ := hrel
                    have HBT := Lib.hid hbt
                    have HTW := Lib.hid htw
                    have HDW := Lib.hid hdw
                    have ht0 : 0 ≤ (t : Int) := by omega
                    clear hbt htw hdw HA
                    by_cases htl : t < s.size
                    · have htl' : (t : Int) < (s.size : Int) := by omega
                      have hdt := drop_at s t htl
                      cases hsg : isSign s[t]
                      · have hTN : (s.data.toList.drop t).takeWhile isSign = [] ∧ (s.data.toList.drop t).dropWhile isSign = s.data.toList.drop t := by
                          rw [hdt]
                          exact ⟨List.takeWhile_cons_of_neg (by simp [hsg]), List.dropWhile_cons_of_neg (by simp [hsg])⟩
                        have HSF := Lib.hid (fun w => bodkinref18_sign.calls 40 _ _ w (sgnR_f s[t]))
                        rw [hsg] at HSF
                        clear hdt hsg
                        have HX4 : Hid (X = if (s.data.toList.drop m).take (t - m) = [] then none else some (⟨2, (s.data.toList.drop m).take (t - m), m⟩, s.data.toList.drop t)) := Lib.hid (by
                          rw [HX3.out, HTW.out, HDW.out, hTN.1, hTN.2, List.append_nil])
                        have hsl2 := sl_run s m t (t : Int) rfl hmt hts
                        clear hTN
                        by_cases htm : t = m
                        · have HE : Hid (R = none) := Lib.hid (by
                            have h1 := HX4.out
                            rw [htm, Nat.sub_self, List.take_zero, if_pos rfl] at h1
                            have h2 := HX.out
                            rw [h1] at h2
                            exact h2.symm)
                          have q : ((t : Int) == (m : Int)) = true := by rw [htm]; simp
                          clear htm
                          go_wp2_with fail
                          refine (HSF.out _).mono ?_
                          rintro e1 w4 ⟨rfl, hb4⟩
                          have HW4 : Hid (Below wr0.heap.size wr0 w4) := Lib.hid (below_step (below_step HW1.out HBT.out) hb4)
                          have HG4 : Hid (w4.heap[g]? = some (.cells #[.int .i64 2, .string ⟨#[s[m]]⟩, .int .i64 (m : Int)] 32)) := Lib.hid ((hb4.block g (Nat.lt_of_lt_of_le (blk_lt HG1.out) HBT.out.size)).trans ((HBT.out.block g (blk_lt HG1.out)).trans HG1.out))
                          clear hb4
                          have c41 : w4.cell? ⟨g, 1, none⟩ = some (.string ⟨#[s[m]]⟩) := (blk_cell HG4.out 1).trans rfl
                          have f41 := blk_frozen HG4.out 1
                          go_wp2
                          go_ret2
                          exact RkQ.bad HE.out (below_step HBR.out (HW4.out.setCell HGG.out _))
                        · have q : ((t : Int) == (m : Int)) = false := by simp only [beq_eq_false_iff_ne, ne_eq]; omega
                          have hXE : X = some (⟨2, (s.data.toList.drop m).take (t - m), m⟩, s.data.toList.drop t) := by
                            rw [HX4.out, if_neg]
                            intro h
                            have := congrArg List.length h
                            rw [List.length_take, List.length_drop, len_data] at this
                            simp at this
                            omega
                          have HX5 := Lib.hid hXE
                          clear hXE
                          go_wp2_with fail
                          refine (HSF.out _).mono ?_
                          rintro e1 w4 ⟨rfl, hb4⟩
                          have HW4 : Hid (Below wr0.heap.size wr0 w4) := Lib.hid (below_step (below_step HW1.out HBT.out) hb4)
                          have HG4 : Hid (w4.heap[g]? = some (.cells #[.int .i64 2, .string ⟨#[s[m]]⟩, .int .i64 (m : Int)] 32)) := Lib.hid ((hb4.block g (Nat.lt_of_lt_of_le (blk_lt HG1.out) HBT.out.size)).trans ((HBT.out.block g (blk_lt HG1.out)).trans HG1.out))
                          clear hb4
                          have c41 : w4.cell? ⟨g, 1, none⟩ = some (.string ⟨#[s[m]]⟩) := (blk_cell HG4.out 1).trans rfl
                          have f41 := blk_frozen HG4.out 1
                          go_wp2
                          go_meet
                          case rel => exact ⟨HW4.out.setCell HGG.out _, ⟨2, (s.data.toList.drop m).take (t - m), m⟩, (t : Int), rfl, by have := blk_set HG4.out 1 (.string (s.extract m t)); rw [← ext_tw]; simpa using this, rfl, by omega, .inr (.inr (.inl rfl)), .inr ⟨t, rfl, by omega, hts, HX5.out⟩⟩
                      · have HTW2 : Hid ((s.data.toList.drop m).takeWhile isSign = (s.data.toList.drop m).take (t + 1 - m) ++ (s.data.toList.drop (t + 1)).takeWhile isSign) := Lib.hid (by
                          rw [HTW.out, hdt, List.takeWhile_cons_of_pos hsg, take_grow s m t hmt htl]
                          simp)
                        have HDW2 : Hid ((s.data.toList.drop m).dropWhile isSign = (s.data.toList.drop (t + 1)).dropWhile isSign) := Lib.hid (by
                          rw [HDW.out, hdt, List.dropWhile_cons_of_pos hsg])
                        have HSF := Lib.hid (fun w => bodkinref18_sign.calls 40 _ _ w (sgnR_f s[t]))
                        rw [hsg] at HSF
                        clear hdt hsg
                        go_wp2_with (go_at_call 24; refine (HSF.out _).mono ?_; rintro e1 w4 ⟨rfl, hb4⟩; have HBT2 := Lib.hid (below_step HBT.out hb4); clear hb4)
                        go_roundw
                        case rel => exact ⟨t + 1, by push_cast; rfl, by omega, by omega, HBT2.out, HTW2.out, HDW2.out⟩
                        case measure => simp only [numV]; omega
                    · have htl' : (s.size : Int) ≤ (t : Int) := by omega
                      have hTN : (s.data.toList.drop t).takeWhile isSign = [] ∧ (s.data.toList.drop t).dropWhile isSign = s.data.toList.drop t := by
                        rw [drop_end s t (by omega)]
                        exact ⟨rfl, rfl⟩
                      have HW4 : Hid (Below wr0.heap.size wr0 wr) := Lib.hid (below_step HW1.out HBT.out)
                      have HG4 : Hid (wr.heap[g]? = some (.cells #[.int .i64 2, .string ⟨#[s[m]]⟩, .int .i64 (m : Int)] 32)) := Lib.hid ((HBT.out.block g (blk_lt HG1.out)).trans HG1.out)
                      have c41 : wr.cell? ⟨g, 1, none⟩ = some (.string ⟨#[s[m]]⟩) := (blk_cell HG4.out 1).trans rfl
                      have f41 := blk_frozen HG4.out 1
                      have HX4 : Hid (X = if (s.data.toList.drop m).take (t - m) = [] then none else some (⟨2, (s.data.toList.drop m).take (t - m), m⟩, s.data.toList.drop t)) := Lib.hid (by
                        rw [HX3.out, HTW.out, HDW.out, hTN.1, hTN.2, List.append_nil])
                      have hsl2 := sl_run s m t (t : Int) rfl hmt hts
                      clear hTN
                      by_cases htm : t = m
                      · exact absurd hme (by omega)
                      · have q : ((t : Int) == (m : Int)) = false := by simp only [beq_eq_false_iff_ne, ne_eq]; omega
                        have hXE : X = some (⟨2, (s.data.toList.drop m).take (t - m), m⟩, s.data.toList.drop t) := by
                          rw [HX4.out, if_neg]
                          intro h
                          have := congrArg List.length h
                          rw [List.length_take, List.length_drop, len_data] at this
                          simp at this
                          omega
                        have HX5 := Lib.hid hXE
                        clear hXE
                        go_wp2
                        go_meet
                        case rel => exact ⟨HW4.out.setCell HGG.out _, ⟨2, (s.data.toList.drop m).take (t - m), m⟩, (t : Int), rfl, by have := blk_set HG4.out 1 (.string (s.extract m t)); rw [← ext_tw]; simpa using this, rfl, by omega, .inr (.inr (.inl rfl)), .inr ⟨t, rfl, by omega, hts, HX5.out⟩⟩
          case rest =>
            obtain ⟨hbc, k, z, rfl, hG, hat, hz1, hk, hor⟩ := hcut
            have HBC := Lib.hid (below_step HBR.out hbc)
            have HOC := Lib.hid (pw_own_below HO.out hbc)
            have HGC := Lib.hid hG
            clear hbc hG c0 f0 HXX HDR hsl
            rcases hor with ⟨hxn, rfl⟩ | ⟨t, rfl, hmt, hts, hxs⟩
            · have HE : Hid (R = none) := Lib.hid (by
                have h2 := HX.out
                rw [hxn] at h2
                exact h2.symm)
              clear hxn hk HSP
              go_wp2
              go_ret2
              exact RkQ.bad HE.out HBC.out
            · have HX2 : Hid ((match toksN s.size f e m (some (k, s.data.toList.drop t)) with | none => none | some k2 => some (ks ++ k2)) = R) := Lib.hid (by have := HX.out; rw [hxs] at this; exact this)
              have k0 : wc.cell? ⟨g, 0, none⟩ = some (.int .i64 k.kind) := (blk_cell HGC.out 0).trans rfl
              have k1 : wc.cell? ⟨g, 1, none⟩ = some (.string ⟨k.text.toArray⟩) := (blk_cell HGC.out 1).trans rfl
              have k2 : wc.cell? ⟨g, 2, none⟩ = some (.int .i64 (m : Int)) := (blk_cell HGC.out 2).trans rfl
              have ht0 : 0 ≤ (t : Int) := by omega
              by_cases hbig : k.kind = 2 ∨ k.kind = 3
              · have hb2 : 2 ≤ k.kind := by omega
                by_cases hme3 : (m : Int) = e
                · have HE : Hid (R = none) := Lib.hid (toksN_bad s f m e k _ ks R ⟨hbig, hme3⟩ HX2.out)
                  have q : ((m : Int) == e) = true := by simpa using hme3
                  clear hxs hme3 HSP
                  go_wp2
                  go_ret2
                  exact RkQ.bad HE.out HBC.out
                · obtain ⟨v1, w4, hrun, ho4, hg4⟩ := append_t2 wc w.heap.size ks u5 k HBC.out.size (by omega) HOC.out
                  rw [hat] at hrun hg4
                  have HRUN := Lib.hid hrun
                  have HO4 := Lib.hid ho4
                  have HB4 : Hid (Below w.heap.size w w4) := Lib.hid ((HBC.out.alloc HBC.out.size _).grown hg4 (HBC.out.alloc HBC.out.size _).size (own_base HOC.out))
                  have HNB : Hid (¬ ((k.kind = 2 ∨ k.kind = 3) ∧ ((m : Nat) : Int) = e)) := Lib.hid (fun h => hme3 h.2)
                  have HEE : Hid ((t : Int) = if k.kind = 2 ∨ k.kind = 3 then (t : Int) else e) := Lib.hid (by rw [if_pos hbig])
                  have q : ((m : Int) == e) = false := by simpa using hme3
                  clear hrun ho4 hg4 hxs hme3 hk hbig hat
                  go_wp2_with (first | (at_builtin; go_loud (refine step_append rfl (.tmp 95) (.tmp 97) 27 27 rfl u5 (.slice (some ⟨wc.heap.size, 0, none⟩) 1 1) v1 w4 (by first | (go_simp; done) | (go_simp; rfl) | rfl) (by first | (go_simp; done) | (go_simp; rfl) | rfl) HRUN.out ?_)) | (go_at_call 22; refine (HSP.out t hts _).mono ?_; intro e1 w5 hq; obtain ⟨he, hb5⟩ := hq.out; subst he; have HB5 := Lib.hid (below_step HB4.out hb5); have HO5 := Lib.hid (pw_own_below HO4.out hb5); clear hq hb5))
                  go_roundw
                  case rel => exact ⟨t, f, (t : Int), ks ++ [k], rfl, rfl, by omega, by omega, hts, by simp; omega, HB5.out, by omega, HO5.out, toksN_on s f m t e _ k ks R hts HNB.out HEE.out HX2.out⟩
                  case measure => exact numM_lt s m t hmt hts
              · obtain ⟨v1, w4, hrun, ho4, hg4⟩ := append_t2 wc w.heap.size ks u5 k HBC.out.size (by omega) HOC.out
                rw [hat] at hrun hg4
                have HRUN := Lib.hid hrun
                have HO4 := Lib.hid ho4
                have HB4 : Hid (Below w.heap.size w w4) := Lib.hid ((HBC.out.alloc HBC.out.size _).grown hg4 (HBC.out.alloc HBC.out.size _).size (own_base HOC.out))
                have HNB : Hid (¬ ((k.kind = 2 ∨ k.kind = 3) ∧ ((m : Nat) : Int) = e)) := Lib.hid (fun h => hbig h.1)
                have HEE : Hid (e = if k.kind = 2 ∨ k.kind = 3 then (t : Int) else e) := Lib.hid (by rw [if_neg hbig])
                have hb2 : k.kind < 2 := by omega
                clear hrun ho4 hg4 hxs hk hbig hat
                go_wp2_with (first | (at_builtin; go_loud (refine step_append rfl (.tmp 95) (.tmp 97) 27 27 rfl u5 (.slice (some ⟨wc.heap.size, 0, none⟩) 1 1) v1 w4 (by first | (go_simp; done) | (go_simp; rfl) | rfl) (by first | (go_simp; done) | (go_simp; rfl) | rfl) HRUN.out ?_)) | (go_at_call 22; refine (HSP.out t hts _).mono ?_; intro e1 w5 hq; obtain ⟨he, hb5⟩ := hq.out; subst he; have HB5 := Lib.hid (below_step HB4.out hb5); have HO5 := Lib.hid (pw_own_below HO4.out hb5); clear hq hb5))
                go_roundw
                case rel => exact ⟨t, f, e, ks ++ [k], rfl, rfl, by omega, by omega, hts, by simp; omega, HB5.out, by omega, HO5.out, toksN_on s f m t e _ k ks R hts HNB.out HEE.out HX2.out⟩
                case measure => exact numM_lt s m t hmt hts
        · have hme2 : m = s.size := by omega
          have HE : Hid (R = some ks) := Lib.hid (by
            have := HC.out
            rw [toks_end _ _ _ _ (by rw [hll, hS, drop_end s m (by omega)])] at this
            simp only [List.append_nil] at this
            exact this.symm)
          have hge : (s.size : Int) ≤ (m : Int) := by omega
          clear hme hme2 hS HC HSP hsp
          go_wp2
          go_ret2
          exact ⟨HBR.out, .inr ⟨ks, _, HE.out, rfl, HO.out⟩⟩
end Go.Proofs.YtjecdciabpjgcaaDoor.Lx
