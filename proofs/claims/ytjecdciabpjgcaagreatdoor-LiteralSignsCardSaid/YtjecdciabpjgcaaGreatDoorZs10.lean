/-
  The walk of the law LiteralSigns. Condition: the library's variable internal/bytealg.MaxLen holds a number, and strconv's and math/bits' tables are as their initialisers lay them.
-/
import Derived.Deep.RegionWith
import Derived.Test.YtjecdciabpjgcaaGreatDoorZs0
import Derived.Test.YtjecdciabpjgcaaGreatDoorZs1
import Derived.Test.YtjecdciabpjgcaaGreatDoorZs2
import Derived.Test.YtjecdciabpjgcaaGreatDoorZs3
import Derived.Test.YtjecdciabpjgcaaGreatDoorZs4
import Derived.Test.YtjecdciabpjgcaaGreatDoorZs5
import Derived.Test.YtjecdciabpjgcaaGreatDoorZs6
import Derived.Test.YtjecdciabpjgcaaGreatDoorZs7
import Derived.Test.YtjecdciabpjgcaaGreatDoorZs8
import Derived.Test.YtjecdciabpjgcaaGreatDoorZs9
namespace Go.Proofs.YtjecdciabpjgcaaGreatDoor.Lz
set_option linter.unusedVariables false
set_option linter.unusedSimpArgs false
open Go.RowKit Go.Proofs.YtjecdciabpjgcaaGreatDoorW.PrintWords Go.Proofs.YtjecdciabpjgcaaGreatDoor.Lx Go.Proofs.YtjecdciabpjgcaaGreatDoor.PLz
theorem and1023 (x : Int) : ∃ k : Nat, Go.bits .and .i64 x 1023 = (k : Int) ∧ k ≤ 1023 := by
  have h : (BitVec.ofInt 64 x &&& BitVec.ofInt 64 1023).toNat ≤ 1023 := by
    rw [BitVec.toNat_and]
    exact Nat.le_trans Nat.and_le_right (by decide)
  have e : Go.bits .and .i64 x 1023 = IntKind.i64.wrap (((BitVec.ofInt 64 x &&& BitVec.ofInt 64 1023).toNat : Nat) : Int) := rfl
  exact ⟨_, by rw [e, IntWalk.i64_in _ (by omega)], h⟩
theorem byteT_ne (a b : UInt8) (h : a ≠ b) : ((a.toNat : Int) == (b.toNat : Int)) = false := by
  simp only [beq_eq_false_iff_ne, ne_eq]
  intro e
  exact h (UInt8.toNat_inj.1 (by omega))
theorem byteT_eq (a b : UInt8) (h : a = b) : ((a.toNat : Int) == (b.toNat : Int)) = true := by rw [h]; simp
set_option maxRecDepth 1000000 in
set_option maxHeartbeats 8000000 in
theorem signs_k0 (bits : Int) (hbits : -9223372036854775808 ≤ bits ∧ bits ≤ 9223372036854775807) (s : ByteArray) (at_ : Int) (w : World) (ht : TW w) (hs1 : 0 < s.size) (hs2 : s.size ≤ 300) (h43 : s[0] ≠ 43) (h45 : s[0] ≠ 45) (h0 : Go.bits .and .i64 at_ 1023 = 0) :
    Calls Tryz.prog 4 #[.int .i64 bits, .string s, .int .i64 at_] w fun e w' => e = .returned (.bool true) ∧ Below w.heap.size w w' := by
  skip
  have hl : s.data.toList = s[0] :: s.data.toList.drop 1 := by have := drop_at s 0 hs1; rwa [List.drop_zero] at this
  obtain ⟨g1, g2, g3⟩ := signs3 bits s[0] (s.data.toList.drop 1) h43 h45
  rw [← hl] at g1 g2 g3
  obtain ⟨x, hx⟩ : ∃ x, floatF bits s.data.toList = x := ⟨_, rfl⟩
  obtain ⟨z, hz⟩ : ∃ z, floatF bits (45 :: s.data.toList) = z := ⟨_, rfl⟩
  rw [hx] at g1 g2 g3
  rw [hz] at g2 g3
  have hln := len_data s
  have HX := Lib.hid (fun w hm => float_at bits s.data.toList (by rw [hln]; omega) x hx w hm)
  have HY := Lib.hid (fun w hm => float_at bits (43 :: s.data.toList) (by rw [List.length_cons, hln]; omega) x g1 w hm)
  have HZ := Lib.hid (fun w hm => float_at bits (45 :: s.data.toList) (by rw [List.length_cons, hln]; omega) z hz w hm)
  have es : (⟨s.data.toList.toArray⟩ : ByteArray) = s := Lib.mk_data s
  rw [es] at HX
  have e43 : (⟨#[43]⟩ : ByteArray) ++ s = ⟨(43 :: s.data.toList).toArray⟩ := by
    conv => lhs; rw [← es]
    exact ba_app1 [43] _
  have e45 : (⟨#[45]⟩ : ByteArray) ++ s = ⟨(45 :: s.data.toList).toArray⟩ := by
    conv => lhs; rw [← es]
    exact ba_app1 [45] _
  have n1 : (s.size : Int) ≤ 300 := by omega
  have n2 : ((s.size : Int) == 0) = false := by simp only [beq_eq_false_iff_ne, ne_eq]; omega
  have n3 : (0 : Int) < (s.size : Int) := by omega
  have n4 : ((s[0].toNat : Int) == 43) = false := byteT_ne s[0] 43 h43
  have n5 : ((s[0].toNat : Int) == 45) = false := byteT_ne s[0] 45 h45
  have HT := Lib.hid ht
  obtain ⟨xv, xb⟩ := x
  obtain ⟨zv, zb⟩ := z
  simp only at g2
  subst g2
  have HE := Lib.hid (fun w hm => float_at bits (s.data.toList ++ [95]) (by rw [List.length_append, hln]; simp; omega) (floatF bits (s.data.toList ++ [95])) rfl w hm)
  have hfe := float_end bits s.data.toList
  generalize floatF bits (s.data.toList ++ [95]) = fe at *
  obtain ⟨fv, fb⟩ := fe
  simp only at hfe
  subst hfe
  simp only at HE
  have e95 : s ++ (⟨#[95]⟩ : ByteArray) = ⟨(s.data.toList ++ [95]).toArray⟩ := by
    conv => lhs; rw [← es]
    exact ba_app1 _ [95]
  skip
  simp only at HX HY HZ g3
  clear hl h43 h45 g1 hx hz hln es ht hs2
  cases zb
  · clear g3
    go_enter Tryz.func4, Tryz.ntmps4
    go_wp2_with (first | (go_at_call 9; refine (awake_c _ HT.out).mono ?_; intro e w0 hq; obtain ⟨he, hb⟩ := hq.out; subst he; have HB0 := Lib.hid hb; clear hb hq) | (go_at_call 12; ((with_reducible refine (HX.out _ (HT.out.ml.below HB0.out)).mono ?_)); rintro e w1 ⟨rfl, hb⟩; have HB1 := Lib.hid (below_step HB0.out hb); clear hb) | (go_at_call 12; ((with_reducible refine (HY.out _ (HT.out.ml.below HB1.out)).mono ?_)); rintro e w2 ⟨rfl, hb⟩; have HB2 := Lib.hid (below_step HB1.out hb); clear hb) | (go_at_call 12; ((with_reducible refine (HZ.out _ (HT.out.ml.below HB2.out)).mono ?_)); rintro e w3 ⟨rfl, hb⟩; have HB3 := Lib.hid (below_step HB2.out hb); clear hb) | (go_at_call 12; ((with_reducible refine (HE.out _ (HT.out.ml.below HB3.out)).mono ?_)); rintro e w4 ⟨rfl, hb⟩; have HB4 := Lib.hid (below_step HB3.out hb); clear hb))
    go_ret
    exact ⟨rfl, HB4.out⟩
  · obtain ⟨b1, b2, b3, b4⟩ := g3 rfl
    have t32 : topI 32 = 2147483648 := rfl
    have t64 : topI 64 = 9223372036854775808 := rfl
    clear g3
    rcases b1 with rfl | rfl
    all_goals
      (first | rw [t32] at b3 b4 | rw [t64] at b3 b4)
      first
        | (have b7 : IntKind.u64.wrap (xv + 2147483648) = zv := by rw [IntKind.wrap_u64]; omega)
        | (have b7 : IntKind.u64.wrap (xv + 9223372036854775808) = zv := by rw [IntKind.wrap_u64]; omega)
      clear b4 b2 b3 t32 t64
      go_enter Tryz.func4, Tryz.ntmps4
      go_wp2_with (first | (go_at_call 9; refine (awake_c _ HT.out).mono ?_; intro e w0 hq; obtain ⟨he, hb⟩ := hq.out; subst he; have HB0 := Lib.hid hb; clear hb hq) | (go_at_call 12; ((with_reducible refine (HX.out _ (HT.out.ml.below HB0.out)).mono ?_)); rintro e w1 ⟨rfl, hb⟩; have HB1 := Lib.hid (below_step HB0.out hb); clear hb) | (go_at_call 12; ((with_reducible refine (HY.out _ (HT.out.ml.below HB1.out)).mono ?_)); rintro e w2 ⟨rfl, hb⟩; have HB2 := Lib.hid (below_step HB1.out hb); clear hb) | (go_at_call 12; ((with_reducible refine (HZ.out _ (HT.out.ml.below HB2.out)).mono ?_)); rintro e w3 ⟨rfl, hb⟩; have HB3 := Lib.hid (below_step HB2.out hb); clear hb) | (go_at_call 12; ((with_reducible refine (HE.out _ (HT.out.ml.below HB3.out)).mono ?_)); rintro e w4 ⟨rfl, hb⟩; have HB4 := Lib.hid (below_step HB3.out hb); clear hb))
      go_ret
      exact ⟨rfl, HB4.out⟩
set_option maxRecDepth 1000000 in
set_option maxHeartbeats 8000000 in
theorem signs_k1 (bits : Int) (hbits : -9223372036854775808 ≤ bits ∧ bits ≤ 9223372036854775807) (s : ByteArray) (at_ : Int) (w : World) (ht : TW w) (hs1 : 0 < s.size) (hs2 : s.size ≤ 300) (h43 : s[0] ≠ 43) (h45 : s[0] ≠ 45) (n : Nat) (hk : Go.bits .and .i64 at_ 1023 = (n : Int) + 1) (hn : s.size ≤ n + 1) :
    Calls Tryz.prog 4 #[.int .i64 bits, .string s, .int .i64 at_] w fun e w' => e = .returned (.bool true) ∧ Below w.heap.size w w' := by
  have k0 : ((n : Int) + 1 == 0) = false := by simp only [beq_eq_false_iff_ne, ne_eq]; omega
  have k1 : (s.size : Int) ≤ (n : Int) + 1 := by omega
  clear hn
  have hl : s.data.toList = s[0] :: s.data.toList.drop 1 := by have := drop_at s 0 hs1; rwa [List.drop_zero] at this
  obtain ⟨g1, g2, g3⟩ := signs3 bits s[0] (s.data.toList.drop 1) h43 h45
  rw [← hl] at g1 g2 g3
  obtain ⟨x, hx⟩ : ∃ x, floatF bits s.data.toList = x := ⟨_, rfl⟩
  obtain ⟨z, hz⟩ : ∃ z, floatF bits (45 :: s.data.toList) = z := ⟨_, rfl⟩
  rw [hx] at g1 g2 g3
  rw [hz] at g2 g3
  have hln := len_data s
  have HX := Lib.hid (fun w hm => float_at bits s.data.toList (by rw [hln]; omega) x hx w hm)
  have HY := Lib.hid (fun w hm => float_at bits (43 :: s.data.toList) (by rw [List.length_cons, hln]; omega) x g1 w hm)
  have HZ := Lib.hid (fun w hm => float_at bits (45 :: s.data.toList) (by rw [List.length_cons, hln]; omega) z hz w hm)
  have es : (⟨s.data.toList.toArray⟩ : ByteArray) = s := Lib.mk_data s
  rw [es] at HX
  have e43 : (⟨#[43]⟩ : ByteArray) ++ s = ⟨(43 :: s.data.toList).toArray⟩ := by
    conv => lhs; rw [← es]
    exact ba_app1 [43] _
  have e45 : (⟨#[45]⟩ : ByteArray) ++ s = ⟨(45 :: s.data.toList).toArray⟩ := by
    conv => lhs; rw [← es]
    exact ba_app1 [45] _
  have n1 : (s.size : Int) ≤ 300 := by omega
  have n2 : ((s.size : Int) == 0) = false := by simp only [beq_eq_false_iff_ne, ne_eq]; omega
  have n3 : (0 : Int) < (s.size : Int) := by omega
  have n4 : ((s[0].toNat : Int) == 43) = false := byteT_ne s[0] 43 h43
  have n5 : ((s[0].toNat : Int) == 45) = false := byteT_ne s[0] 45 h45
  have HT := Lib.hid ht
  obtain ⟨xv, xb⟩ := x
  obtain ⟨zv, zb⟩ := z
  simp only at g2
  subst g2
  have HE := Lib.hid (fun w hm => float_at bits (s.data.toList ++ [95]) (by rw [List.length_append, hln]; simp; omega) (floatF bits (s.data.toList ++ [95])) rfl w hm)
  have hfe := float_end bits s.data.toList
  generalize floatF bits (s.data.toList ++ [95]) = fe at *
  obtain ⟨fv, fb⟩ := fe
  simp only at hfe
  subst hfe
  simp only at HE
  have e95 : s ++ (⟨#[95]⟩ : ByteArray) = ⟨(s.data.toList ++ [95]).toArray⟩ := by
    conv => lhs; rw [← es]
    exact ba_app1 _ [95]
  skip
  simp only at HX HY HZ g3
  clear hl h43 h45 g1 hx hz hln es ht hs2
  cases zb
  · clear g3
    go_enter Tryz.func4, Tryz.ntmps4
    go_wp2_with (first | (go_at_call 9; refine (awake_c _ HT.out).mono ?_; intro e w0 hq; obtain ⟨he, hb⟩ := hq.out; subst he; have HB0 := Lib.hid hb; clear hb hq) | (go_at_call 12; ((with_reducible refine (HX.out _ (HT.out.ml.below HB0.out)).mono ?_)); rintro e w1 ⟨rfl, hb⟩; have HB1 := Lib.hid (below_step HB0.out hb); clear hb) | (go_at_call 12; ((with_reducible refine (HY.out _ (HT.out.ml.below HB1.out)).mono ?_)); rintro e w2 ⟨rfl, hb⟩; have HB2 := Lib.hid (below_step HB1.out hb); clear hb) | (go_at_call 12; ((with_reducible refine (HZ.out _ (HT.out.ml.below HB2.out)).mono ?_)); rintro e w3 ⟨rfl, hb⟩; have HB3 := Lib.hid (below_step HB2.out hb); clear hb) | (go_at_call 12; ((with_reducible refine (HE.out _ (HT.out.ml.below HB3.out)).mono ?_)); rintro e w4 ⟨rfl, hb⟩; have HB4 := Lib.hid (below_step HB3.out hb); clear hb))
    go_ret
    exact ⟨rfl, HB4.out⟩
  · obtain ⟨b1, b2, b3, b4⟩ := g3 rfl
    have t32 : topI 32 = 2147483648 := rfl
    have t64 : topI 64 = 9223372036854775808 := rfl
    clear g3
    rcases b1 with rfl | rfl
    all_goals
      (first | rw [t32] at b3 b4 | rw [t64] at b3 b4)
      first
        | (have b7 : IntKind.u64.wrap (xv + 2147483648) = zv := by rw [IntKind.wrap_u64]; omega)
        | (have b7 : IntKind.u64.wrap (xv + 9223372036854775808) = zv := by rw [IntKind.wrap_u64]; omega)
      clear b4 b2 b3 t32 t64
      go_enter Tryz.func4, Tryz.ntmps4
      go_wp2_with (first | (go_at_call 9; refine (awake_c _ HT.out).mono ?_; intro e w0 hq; obtain ⟨he, hb⟩ := hq.out; subst he; have HB0 := Lib.hid hb; clear hb hq) | (go_at_call 12; ((with_reducible refine (HX.out _ (HT.out.ml.below HB0.out)).mono ?_)); rintro e w1 ⟨rfl, hb⟩; have HB1 := Lib.hid (below_step HB0.out hb); clear hb) | (go_at_call 12; ((with_reducible refine (HY.out _ (HT.out.ml.below HB1.out)).mono ?_)); rintro e w2 ⟨rfl, hb⟩; have HB2 := Lib.hid (below_step HB1.out hb); clear hb) | (go_at_call 12; ((with_reducible refine (HZ.out _ (HT.out.ml.below HB2.out)).mono ?_)); rintro e w3 ⟨rfl, hb⟩; have HB3 := Lib.hid (below_step HB2.out hb); clear hb) | (go_at_call 12; ((with_reducible refine (HE.out _ (HT.out.ml.below HB3.out)).mono ?_)); rintro e w4 ⟨rfl, hb⟩; have HB4 := Lib.hid (below_step HB3.out hb); clear hb))
      go_ret
      exact ⟨rfl, HB4.out⟩
set_option maxRecDepth 1000000 in
set_option maxHeartbeats 8000000 in
theorem signs_k2 (bits : Int) (hbits : -9223372036854775808 ≤ bits ∧ bits ≤ 9223372036854775807) (s : ByteArray) (at_ : Int) (w : World) (ht : TW w) (hs1 : 0 < s.size) (hs2 : s.size ≤ 300) (h43 : s[0] ≠ 43) (h45 : s[0] ≠ 45) (n : Nat) (hk : Go.bits .and .i64 at_ 1023 = (n : Int) + 1) (hn : n + 1 < s.size) (h1 : s[n].toNat < 48) :
    Calls Tryz.prog 4 #[.int .i64 bits, .string s, .int .i64 at_] w fun e w' => e = .returned (.bool true) ∧ Below w.heap.size w w' := by
  have k0 : ((n : Int) + 1 == 0) = false := by simp only [beq_eq_false_iff_ne, ne_eq]; omega
  have k1 : (n : Int) + 1 < (s.size : Int) := by omega
  have k2 : (n : Int) < (s.size : Int) := by omega
  have k3 : (0 : Int) ≤ (n : Int) := by omega
  have q1 : (s[n].toNat : Int) < 48 := by omega
  have hl : s.data.toList = s[0] :: s.data.toList.drop 1 := by have := drop_at s 0 hs1; rwa [List.drop_zero] at this
  obtain ⟨g1, g2, g3⟩ := signs3 bits s[0] (s.data.toList.drop 1) h43 h45
  rw [← hl] at g1 g2 g3
  obtain ⟨x, hx⟩ : ∃ x, floatF bits s.data.toList = x := ⟨_, rfl⟩
  obtain ⟨z, hz⟩ : ∃ z, floatF bits (45 :: s.data.toList) = z := ⟨_, rfl⟩
  rw [hx] at g1 g2 g3
  rw [hz] at g2 g3
  have hln := len_data s
  have HX := Lib.hid (fun w hm => float_at bits s.data.toList (by rw [hln]; omega) x hx w hm)
  have HY := Lib.hid (fun w hm => float_at bits (43 :: s.data.toList) (by rw [List.length_cons, hln]; omega) x g1 w hm)
  have HZ := Lib.hid (fun w hm => float_at bits (45 :: s.data.toList) (by rw [List.length_cons, hln]; omega) z hz w hm)
  have es : (⟨s.data.toList.toArray⟩ : ByteArray) = s := Lib.mk_data s
  rw [es] at HX
  have e43 : (⟨#[43]⟩ : ByteArray) ++ s = ⟨(43 :: s.data.toList).toArray⟩ := by
    conv => lhs; rw [← es]
    exact ba_app1 [43] _
  have e45 : (⟨#[45]⟩ : ByteArray) ++ s = ⟨(45 :: s.data.toList).toArray⟩ := by
    conv => lhs; rw [← es]
    exact ba_app1 [45] _
  have n1 : (s.size : Int) ≤ 300 := by omega
  have n2 : ((s.size : Int) == 0) = false := by simp only [beq_eq_false_iff_ne, ne_eq]; omega
  have n3 : (0 : Int) < (s.size : Int) := by omega
  have n4 : ((s[0].toNat : Int) == 43) = false := byteT_ne s[0] 43 h43
  have n5 : ((s[0].toNat : Int) == 45) = false := byteT_ne s[0] 45 h45
  have HT := Lib.hid ht
  obtain ⟨xv, xb⟩ := x
  obtain ⟨zv, zb⟩ := z
  simp only at g2
  subst g2
  have HE := Lib.hid (fun w hm => float_at bits (s.data.toList ++ [95]) (by rw [List.length_append, hln]; simp; omega) (floatF bits (s.data.toList ++ [95])) rfl w hm)
  have hfe := float_end bits s.data.toList
  generalize floatF bits (s.data.toList ++ [95]) = fe at *
  obtain ⟨fv, fb⟩ := fe
  simp only at hfe
  subst hfe
  simp only at HE
  have e95 : s ++ (⟨#[95]⟩ : ByteArray) = ⟨(s.data.toList ++ [95]).toArray⟩ := by
    conv => lhs; rw [← es]
    exact ba_app1 _ [95]
  skip
  simp only at HX HY HZ g3
  clear hl h43 h45 g1 hx hz hln es ht hs2
  cases zb
  · clear g3
    go_enter Tryz.func4, Tryz.ntmps4
    go_wp2_with (first | (go_at_call 9; refine (awake_c _ HT.out).mono ?_; intro e w0 hq; obtain ⟨he, hb⟩ := hq.out; subst he; have HB0 := Lib.hid hb; clear hb hq) | (go_at_call 12; ((with_reducible refine (HX.out _ (HT.out.ml.below HB0.out)).mono ?_)); rintro e w1 ⟨rfl, hb⟩; have HB1 := Lib.hid (below_step HB0.out hb); clear hb) | (go_at_call 12; ((with_reducible refine (HY.out _ (HT.out.ml.below HB1.out)).mono ?_)); rintro e w2 ⟨rfl, hb⟩; have HB2 := Lib.hid (below_step HB1.out hb); clear hb) | (go_at_call 12; ((with_reducible refine (HZ.out _ (HT.out.ml.below HB2.out)).mono ?_)); rintro e w3 ⟨rfl, hb⟩; have HB3 := Lib.hid (below_step HB2.out hb); clear hb) | (go_at_call 12; ((with_reducible refine (HE.out _ (HT.out.ml.below HB3.out)).mono ?_)); rintro e w4 ⟨rfl, hb⟩; have HB4 := Lib.hid (below_step HB3.out hb); clear hb))
    go_ret
    exact ⟨rfl, HB4.out⟩
  · obtain ⟨b1, b2, b3, b4⟩ := g3 rfl
    have t32 : topI 32 = 2147483648 := rfl
    have t64 : topI 64 = 9223372036854775808 := rfl
    clear g3
    rcases b1 with rfl | rfl
    all_goals
      (first | rw [t32] at b3 b4 | rw [t64] at b3 b4)
      first
        | (have b7 : IntKind.u64.wrap (xv + 2147483648) = zv := by rw [IntKind.wrap_u64]; omega)
        | (have b7 : IntKind.u64.wrap (xv + 9223372036854775808) = zv := by rw [IntKind.wrap_u64]; omega)
      clear b4 b2 b3 t32 t64
      go_enter Tryz.func4, Tryz.ntmps4
      go_wp2_with (first | (go_at_call 9; refine (awake_c _ HT.out).mono ?_; intro e w0 hq; obtain ⟨he, hb⟩ := hq.out; subst he; have HB0 := Lib.hid hb; clear hb hq) | (go_at_call 12; ((with_reducible refine (HX.out _ (HT.out.ml.below HB0.out)).mono ?_)); rintro e w1 ⟨rfl, hb⟩; have HB1 := Lib.hid (below_step HB0.out hb); clear hb) | (go_at_call 12; ((with_reducible refine (HY.out _ (HT.out.ml.below HB1.out)).mono ?_)); rintro e w2 ⟨rfl, hb⟩; have HB2 := Lib.hid (below_step HB1.out hb); clear hb) | (go_at_call 12; ((with_reducible refine (HZ.out _ (HT.out.ml.below HB2.out)).mono ?_)); rintro e w3 ⟨rfl, hb⟩; have HB3 := Lib.hid (below_step HB2.out hb); clear hb) | (go_at_call 12; ((with_reducible refine (HE.out _ (HT.out.ml.below HB3.out)).mono ?_)); rintro e w4 ⟨rfl, hb⟩; have HB4 := Lib.hid (below_step HB3.out hb); clear hb))
      go_ret
      exact ⟨rfl, HB4.out⟩
set_option maxRecDepth 1000000 in
set_option maxHeartbeats 8000000 in
theorem signs_k3 (bits : Int) (hbits : -9223372036854775808 ≤ bits ∧ bits ≤ 9223372036854775807) (s : ByteArray) (at_ : Int) (w : World) (ht : TW w) (hs1 : 0 < s.size) (hs2 : s.size ≤ 300) (h43 : s[0] ≠ 43) (h45 : s[0] ≠ 45) (n : Nat) (hk : Go.bits .and .i64 at_ 1023 = (n : Int) + 1) (hn : n + 1 < s.size) (h1 : 57 < s[n].toNat) :
    Calls Tryz.prog 4 #[.int .i64 bits, .string s, .int .i64 at_] w fun e w' => e = .returned (.bool true) ∧ Below w.heap.size w w' := by
  have k0 : ((n : Int) + 1 == 0) = false := by simp only [beq_eq_false_iff_ne, ne_eq]; omega
  have k1 : (n : Int) + 1 < (s.size : Int) := by omega
  have k2 : (n : Int) < (s.size : Int) := by omega
  have k3 : (0 : Int) ≤ (n : Int) := by omega
  have q0 : 48 ≤ (s[n].toNat : Int) := by omega
  have q1 : 57 < (s[n].toNat : Int) := by omega
  have hl : s.data.toList = s[0] :: s.data.toList.drop 1 := by have := drop_at s 0 hs1; rwa [List.drop_zero] at this
  obtain ⟨g1, g2, g3⟩ := signs3 bits s[0] (s.data.toList.drop 1) h43 h45
  rw [← hl] at g1 g2 g3
  obtain ⟨x, hx⟩ : ∃ x, floatF bits s.data.toList = x := ⟨_, rfl⟩
  obtain ⟨z, hz⟩ : ∃ z, floatF bits (45 :: s.data.toList) = z := ⟨_, rfl⟩
  rw [hx] at g1 g2 g3
  rw [hz] at g2 g3
  have hln := len_data s
  have HX := Lib.hid (fun w hm => float_at bits s.data.toList (by rw [hln]; omega) x hx w hm)
  have HY := Lib.hid (fun w hm => float_at bits (43 :: s.data.toList) (by rw [List.length_cons, hln]; omega) x g1 w hm)
  have HZ := Lib.hid (fun w hm => float_at bits (45 :: s.data.toList) (by rw [List.length_cons, hln]; omega) z hz w hm)
  have es : (⟨s.data.toList.toArray⟩ : ByteArray) = s := Lib.mk_data s
  rw [es] at HX
  have e43 : (⟨#[43]⟩ : ByteArray) ++ s = ⟨(43 :: s.data.toList).toArray⟩ := by
    conv => lhs; rw [← es]
    exact ba_app1 [43] _
  have e45 : (⟨#[45]⟩ : ByteArray) ++ s = ⟨(45 :: s.data.toList).toArray⟩ := by
    conv => lhs; rw [← es]
    exact ba_app1 [45] _
  have n1 : (s.size : Int) ≤ 300 := by omega
  have n2 : ((s.size : Int) == 0) = false := by simp only [beq_eq_false_iff_ne, ne_eq]; omega
  have n3 : (0 : Int) < (s.size : Int) := by omega
  have n4 : ((s[0].toNat : Int) == 43) = false := byteT_ne s[0] 43 h43
  have n5 : ((s[0].toNat : Int) == 45) = false := byteT_ne s[0] 45 h45
  have HT := Lib.hid ht
  obtain ⟨xv, xb⟩ := x
  obtain ⟨zv, zb⟩ := z
  simp only at g2
  subst g2
  have HE := Lib.hid (fun w hm => float_at bits (s.data.toList ++ [95]) (by rw [List.length_append, hln]; simp; omega) (floatF bits (s.data.toList ++ [95])) rfl w hm)
  have hfe := float_end bits s.data.toList
  generalize floatF bits (s.data.toList ++ [95]) = fe at *
  obtain ⟨fv, fb⟩ := fe
  simp only at hfe
  subst hfe
  simp only at HE
  have e95 : s ++ (⟨#[95]⟩ : ByteArray) = ⟨(s.data.toList ++ [95]).toArray⟩ := by
    conv => lhs; rw [← es]
    exact ba_app1 _ [95]
  skip
  simp only at HX HY HZ g3
  clear hl h43 h45 g1 hx hz hln es ht hs2
  cases zb
  · clear g3
    go_enter Tryz.func4, Tryz.ntmps4
    go_wp2_with (first | (go_at_call 9; refine (awake_c _ HT.out).mono ?_; intro e w0 hq; obtain ⟨he, hb⟩ := hq.out; subst he; have HB0 := Lib.hid hb; clear hb hq) | (go_at_call 12; ((with_reducible refine (HX.out _ (HT.out.ml.below HB0.out)).mono ?_)); rintro e w1 ⟨rfl, hb⟩; have HB1 := Lib.hid (below_step HB0.out hb); clear hb) | (go_at_call 12; ((with_reducible refine (HY.out _ (HT.out.ml.below HB1.out)).mono ?_)); rintro e w2 ⟨rfl, hb⟩; have HB2 := Lib.hid (below_step HB1.out hb); clear hb) | (go_at_call 12; ((with_reducible refine (HZ.out _ (HT.out.ml.below HB2.out)).mono ?_)); rintro e w3 ⟨rfl, hb⟩; have HB3 := Lib.hid (below_step HB2.out hb); clear hb) | (go_at_call 12; ((with_reducible refine (HE.out _ (HT.out.ml.below HB3.out)).mono ?_)); rintro e w4 ⟨rfl, hb⟩; have HB4 := Lib.hid (below_step HB3.out hb); clear hb))
    go_ret
    exact ⟨rfl, HB4.out⟩
  · obtain ⟨b1, b2, b3, b4⟩ := g3 rfl
    have t32 : topI 32 = 2147483648 := rfl
    have t64 : topI 64 = 9223372036854775808 := rfl
    clear g3
    rcases b1 with rfl | rfl
    all_goals
      (first | rw [t32] at b3 b4 | rw [t64] at b3 b4)
      first
        | (have b7 : IntKind.u64.wrap (xv + 2147483648) = zv := by rw [IntKind.wrap_u64]; omega)
        | (have b7 : IntKind.u64.wrap (xv + 9223372036854775808) = zv := by rw [IntKind.wrap_u64]; omega)
      clear b4 b2 b3 t32 t64
      go_enter Tryz.func4, Tryz.ntmps4
      go_wp2_with (first | (go_at_call 9; refine (awake_c _ HT.out).mono ?_; intro e w0 hq; obtain ⟨he, hb⟩ := hq.out; subst he; have HB0 := Lib.hid hb; clear hb hq) | (go_at_call 12; ((with_reducible refine (HX.out _ (HT.out.ml.below HB0.out)).mono ?_)); rintro e w1 ⟨rfl, hb⟩; have HB1 := Lib.hid (below_step HB0.out hb); clear hb) | (go_at_call 12; ((with_reducible refine (HY.out _ (HT.out.ml.below HB1.out)).mono ?_)); rintro e w2 ⟨rfl, hb⟩; have HB2 := Lib.hid (below_step HB1.out hb); clear hb) | (go_at_call 12; ((with_reducible refine (HZ.out _ (HT.out.ml.below HB2.out)).mono ?_)); rintro e w3 ⟨rfl, hb⟩; have HB3 := Lib.hid (below_step HB2.out hb); clear hb) | (go_at_call 12; ((with_reducible refine (HE.out _ (HT.out.ml.below HB3.out)).mono ?_)); rintro e w4 ⟨rfl, hb⟩; have HB4 := Lib.hid (below_step HB3.out hb); clear hb))
      go_ret
      exact ⟨rfl, HB4.out⟩
set_option maxRecDepth 1000000 in
set_option maxHeartbeats 8000000 in
theorem signs_k4 (bits : Int) (hbits : -9223372036854775808 ≤ bits ∧ bits ≤ 9223372036854775807) (s : ByteArray) (at_ : Int) (w : World) (ht : TW w) (hs1 : 0 < s.size) (hs2 : s.size ≤ 300) (h43 : s[0] ≠ 43) (h45 : s[0] ≠ 45) (n : Nat) (hk : Go.bits .and .i64 at_ 1023 = (n : Int) + 1) (hn : n + 1 < s.size) (h1 : 48 ≤ s[n].toNat) (h2 : s[n].toNat ≤ 57) (h3 : s[n + 1].toNat < 48) :
    Calls Tryz.prog 4 #[.int .i64 bits, .string s, .int .i64 at_] w fun e w' => e = .returned (.bool true) ∧ Below w.heap.size w w' := by
  have k0 : ((n : Int) + 1 == 0) = false := by simp only [beq_eq_false_iff_ne, ne_eq]; omega
  have k1 : (n : Int) + 1 < (s.size : Int) := by omega
  have k2 : (n : Int) < (s.size : Int) := by omega
  have k3 : (0 : Int) ≤ (n : Int) := by omega
  have q0 : 48 ≤ (s[n].toNat : Int) := by omega
  have q1 : (s[n].toNat : Int) ≤ 57 := by omega
  have q2 : (s[n + 1].toNat : Int) < 48 := by omega
  have hl : s.data.toList = s[0] :: s.data.toList.drop 1 := by have := drop_at s 0 hs1; rwa [List.drop_zero] at this
  obtain ⟨g1, g2, g3⟩ := signs3 bits s[0] (s.data.toList.drop 1) h43 h45
  rw [← hl] at g1 g2 g3
  obtain ⟨x, hx⟩ : ∃ x, floatF bits s.data.toList = x := ⟨_, rfl⟩
  obtain ⟨z, hz⟩ : ∃ z, floatF bits (45 :: s.data.toList) = z := ⟨_, rfl⟩
  rw [hx] at g1 g2 g3
  rw [hz] at g2 g3
  have hln := len_data s
  have HX := Lib.hid (fun w hm => float_at bits s.data.toList (by rw [hln]; omega) x hx w hm)
  have HY := Lib.hid (fun w hm => float_at bits (43 :: s.data.toList) (by rw [List.length_cons, hln]; omega) x g1 w hm)
  have HZ := Lib.hid (fun w hm => float_at bits (45 :: s.data.toList) (by rw [List.length_cons, hln]; omega) z hz w hm)
  have es : (⟨s.data.toList.toArray⟩ : ByteArray) = s := Lib.mk_data s
  rw [es] at HX
  have e43 : (⟨#[43]⟩ : ByteArray) ++ s = ⟨(43 :: s.data.toList).toArray⟩ := by
    conv => lhs; rw [← es]
    exact ba_app1 [43] _
  have e45 : (⟨#[45]⟩ : ByteArray) ++ s = ⟨(45 :: s.data.toList).toArray⟩ := by
    conv => lhs; rw [← es]
    exact ba_app1 [45] _
  have n1 : (s.size : Int) ≤ 300 := by omega
  have n2 : ((s.size : Int) == 0) = false := by simp only [beq_eq_false_iff_ne, ne_eq]; omega
  have n3 : (0 : Int) < (s.size : Int) := by omega
  have n4 : ((s[0].toNat : Int) == 43) = false := byteT_ne s[0] 43 h43
  have n5 : ((s[0].toNat : Int) == 45) = false := byteT_ne s[0] 45 h45
  have HT := Lib.hid ht
  obtain ⟨xv, xb⟩ := x
  obtain ⟨zv, zb⟩ := z
  simp only at g2
  subst g2
  have HE := Lib.hid (fun w hm => float_at bits (s.data.toList ++ [95]) (by rw [List.length_append, hln]; simp; omega) (floatF bits (s.data.toList ++ [95])) rfl w hm)
  have hfe := float_end bits s.data.toList
  generalize floatF bits (s.data.toList ++ [95]) = fe at *
  obtain ⟨fv, fb⟩ := fe
  simp only at hfe
  subst hfe
  simp only at HE
  have e95 : s ++ (⟨#[95]⟩ : ByteArray) = ⟨(s.data.toList ++ [95]).toArray⟩ := by
    conv => lhs; rw [← es]
    exact ba_app1 _ [95]
  skip
  simp only at HX HY HZ g3
  clear hl h43 h45 g1 hx hz hln es ht hs2
  cases zb
  · clear g3
    go_enter Tryz.func4, Tryz.ntmps4
    go_wp2_with (first | (go_at_call 9; refine (awake_c _ HT.out).mono ?_; intro e w0 hq; obtain ⟨he, hb⟩ := hq.out; subst he; have HB0 := Lib.hid hb; clear hb hq) | (go_at_call 12; ((with_reducible refine (HX.out _ (HT.out.ml.below HB0.out)).mono ?_)); rintro e w1 ⟨rfl, hb⟩; have HB1 := Lib.hid (below_step HB0.out hb); clear hb) | (go_at_call 12; ((with_reducible refine (HY.out _ (HT.out.ml.below HB1.out)).mono ?_)); rintro e w2 ⟨rfl, hb⟩; have HB2 := Lib.hid (below_step HB1.out hb); clear hb) | (go_at_call 12; ((with_reducible refine (HZ.out _ (HT.out.ml.below HB2.out)).mono ?_)); rintro e w3 ⟨rfl, hb⟩; have HB3 := Lib.hid (below_step HB2.out hb); clear hb) | (go_at_call 12; ((with_reducible refine (HE.out _ (HT.out.ml.below HB3.out)).mono ?_)); rintro e w4 ⟨rfl, hb⟩; have HB4 := Lib.hid (below_step HB3.out hb); clear hb))
    go_ret
    exact ⟨rfl, HB4.out⟩
  · obtain ⟨b1, b2, b3, b4⟩ := g3 rfl
    have t32 : topI 32 = 2147483648 := rfl
    have t64 : topI 64 = 9223372036854775808 := rfl
    clear g3
    rcases b1 with rfl | rfl
    all_goals
      (first | rw [t32] at b3 b4 | rw [t64] at b3 b4)
      first
        | (have b7 : IntKind.u64.wrap (xv + 2147483648) = zv := by rw [IntKind.wrap_u64]; omega)
        | (have b7 : IntKind.u64.wrap (xv + 9223372036854775808) = zv := by rw [IntKind.wrap_u64]; omega)
      clear b4 b2 b3 t32 t64
      go_enter Tryz.func4, Tryz.ntmps4
      go_wp2_with (first | (go_at_call 9; refine (awake_c _ HT.out).mono ?_; intro e w0 hq; obtain ⟨he, hb⟩ := hq.out; subst he; have HB0 := Lib.hid hb; clear hb hq) | (go_at_call 12; ((with_reducible refine (HX.out _ (HT.out.ml.below HB0.out)).mono ?_)); rintro e w1 ⟨rfl, hb⟩; have HB1 := Lib.hid (below_step HB0.out hb); clear hb) | (go_at_call 12; ((with_reducible refine (HY.out _ (HT.out.ml.below HB1.out)).mono ?_)); rintro e w2 ⟨rfl, hb⟩; have HB2 := Lib.hid (below_step HB1.out hb); clear hb) | (go_at_call 12; ((with_reducible refine (HZ.out _ (HT.out.ml.below HB2.out)).mono ?_)); rintro e w3 ⟨rfl, hb⟩; have HB3 := Lib.hid (below_step HB2.out hb); clear hb) | (go_at_call 12; ((with_reducible refine (HE.out _ (HT.out.ml.below HB3.out)).mono ?_)); rintro e w4 ⟨rfl, hb⟩; have HB4 := Lib.hid (below_step HB3.out hb); clear hb))
      go_ret
      exact ⟨rfl, HB4.out⟩
set_option maxRecDepth 1000000 in
set_option maxHeartbeats 8000000 in
theorem signs_k5 (bits : Int) (hbits : -9223372036854775808 ≤ bits ∧ bits ≤ 9223372036854775807) (s : ByteArray) (at_ : Int) (w : World) (ht : TW w) (hs1 : 0 < s.size) (hs2 : s.size ≤ 300) (h43 : s[0] ≠ 43) (h45 : s[0] ≠ 45) (n : Nat) (hk : Go.bits .and .i64 at_ 1023 = (n : Int) + 1) (hn : n + 1 < s.size) (h1 : 48 ≤ s[n].toNat) (h2 : s[n].toNat ≤ 57) (h3 : 57 < s[n + 1].toNat) :
    Calls Tryz.prog 4 #[.int .i64 bits, .string s, .int .i64 at_] w fun e w' => e = .returned (.bool true) ∧ Below w.heap.size w w' := by
  have k0 : ((n : Int) + 1 == 0) = false := by simp only [beq_eq_false_iff_ne, ne_eq]; omega
  have k1 : (n : Int) + 1 < (s.size : Int) := by omega
  have k2 : (n : Int) < (s.size : Int) := by omega
  have k3 : (0 : Int) ≤ (n : Int) := by omega
  have q0 : 48 ≤ (s[n].toNat : Int) := by omega
  have q1 : (s[n].toNat : Int) ≤ 57 := by omega
  have q2 : 48 ≤ (s[n + 1].toNat : Int) := by omega
  have q3 : 57 < (s[n + 1].toNat : Int) := by omega
  have hl : s.data.toList = s[0] :: s.data.toList.drop 1 := by have := drop_at s 0 hs1; rwa [List.drop_zero] at this
  obtain ⟨g1, g2, g3⟩ := signs3 bits s[0] (s.data.toList.drop 1) h43 h45
  rw [← hl] at g1 g2 g3
  obtain ⟨x, hx⟩ : ∃ x, floatF bits s.data.toList = x := ⟨_, rfl⟩
  obtain ⟨z, hz⟩ : ∃ z, floatF bits (45 :: s.data.toList) = z := ⟨_, rfl⟩
  rw [hx] at g1 g2 g3
  rw [hz] at g2 g3
  have hln := len_data s
  have HX := Lib.hid (fun w hm => float_at bits s.data.toList (by rw [hln]; omega) x hx w hm)
  have HY := Lib.hid (fun w hm => float_at bits (43 :: s.data.toList) (by rw [List.length_cons, hln]; omega) x g1 w hm)
  have HZ := Lib.hid (fun w hm => float_at bits (45 :: s.data.toList) (by rw [List.length_cons, hln]; omega) z hz w hm)
  have es : (⟨s.data.toList.toArray⟩ : ByteArray) = s := Lib.mk_data s
  rw [es] at HX
  have e43 : (⟨#[43]⟩ : ByteArray) ++ s = ⟨(43 :: s.data.toList).toArray⟩ := by
    conv => lhs; rw [← es]
    exact ba_app1 [43] _
  have e45 : (⟨#[45]⟩ : ByteArray) ++ s = ⟨(45 :: s.data.toList).toArray⟩ := by
    conv => lhs; rw [← es]
    exact ba_app1 [45] _
  have n1 : (s.size : Int) ≤ 300 := by omega
  have n2 : ((s.size : Int) == 0) = false := by simp only [beq_eq_false_iff_ne, ne_eq]; omega
  have n3 : (0 : Int) < (s.size : Int) := by omega
  have n4 : ((s[0].toNat : Int) == 43) = false := byteT_ne s[0] 43 h43
  have n5 : ((s[0].toNat : Int) == 45) = false := byteT_ne s[0] 45 h45
  have HT := Lib.hid ht
  obtain ⟨xv, xb⟩ := x
  obtain ⟨zv, zb⟩ := z
  simp only at g2
  subst g2
  have HE := Lib.hid (fun w hm => float_at bits (s.data.toList ++ [95]) (by rw [List.length_append, hln]; simp; omega) (floatF bits (s.data.toList ++ [95])) rfl w hm)
  have hfe := float_end bits s.data.toList
  generalize floatF bits (s.data.toList ++ [95]) = fe at *
  obtain ⟨fv, fb⟩ := fe
  simp only at hfe
  subst hfe
  simp only at HE
  have e95 : s ++ (⟨#[95]⟩ : ByteArray) = ⟨(s.data.toList ++ [95]).toArray⟩ := by
    conv => lhs; rw [← es]
    exact ba_app1 _ [95]
  skip
  simp only at HX HY HZ g3
  clear hl h43 h45 g1 hx hz hln es ht hs2
  cases zb
  · clear g3
    go_enter Tryz.func4, Tryz.ntmps4
    go_wp2_with (first | (go_at_call 9; refine (awake_c _ HT.out).mono ?_; intro e w0 hq; obtain ⟨he, hb⟩ := hq.out; subst he; have HB0 := Lib.hid hb; clear hb hq) | (go_at_call 12; ((with_reducible refine (HX.out _ (HT.out.ml.below HB0.out)).mono ?_)); rintro e w1 ⟨rfl, hb⟩; have HB1 := Lib.hid (below_step HB0.out hb); clear hb) | (go_at_call 12; ((with_reducible refine (HY.out _ (HT.out.ml.below HB1.out)).mono ?_)); rintro e w2 ⟨rfl, hb⟩; have HB2 := Lib.hid (below_step HB1.out hb); clear hb) | (go_at_call 12; ((with_reducible refine (HZ.out _ (HT.out.ml.below HB2.out)).mono ?_)); rintro e w3 ⟨rfl, hb⟩; have HB3 := Lib.hid (below_step HB2.out hb); clear hb) | (go_at_call 12; ((with_reducible refine (HE.out _ (HT.out.ml.below HB3.out)).mono ?_)); rintro e w4 ⟨rfl, hb⟩; have HB4 := Lib.hid (below_step HB3.out hb); clear hb))
    go_ret
    exact ⟨rfl, HB4.out⟩
  · obtain ⟨b1, b2, b3, b4⟩ := g3 rfl
    have t32 : topI 32 = 2147483648 := rfl
    have t64 : topI 64 = 9223372036854775808 := rfl
    clear g3
    rcases b1 with rfl | rfl
    all_goals
      (first | rw [t32] at b3 b4 | rw [t64] at b3 b4)
      first
        | (have b7 : IntKind.u64.wrap (xv + 2147483648) = zv := by rw [IntKind.wrap_u64]; omega)
        | (have b7 : IntKind.u64.wrap (xv + 9223372036854775808) = zv := by rw [IntKind.wrap_u64]; omega)
      clear b4 b2 b3 t32 t64
      go_enter Tryz.func4, Tryz.ntmps4
      go_wp2_with (first | (go_at_call 9; refine (awake_c _ HT.out).mono ?_; intro e w0 hq; obtain ⟨he, hb⟩ := hq.out; subst he; have HB0 := Lib.hid hb; clear hb hq) | (go_at_call 12; ((with_reducible refine (HX.out _ (HT.out.ml.below HB0.out)).mono ?_)); rintro e w1 ⟨rfl, hb⟩; have HB1 := Lib.hid (below_step HB0.out hb); clear hb) | (go_at_call 12; ((with_reducible refine (HY.out _ (HT.out.ml.below HB1.out)).mono ?_)); rintro e w2 ⟨rfl, hb⟩; have HB2 := Lib.hid (below_step HB1.out hb); clear hb) | (go_at_call 12; ((with_reducible refine (HZ.out _ (HT.out.ml.below HB2.out)).mono ?_)); rintro e w3 ⟨rfl, hb⟩; have HB3 := Lib.hid (below_step HB2.out hb); clear hb) | (go_at_call 12; ((with_reducible refine (HE.out _ (HT.out.ml.below HB3.out)).mono ?_)); rintro e w4 ⟨rfl, hb⟩; have HB4 := Lib.hid (below_step HB3.out hb); clear hb))
      go_ret
      exact ⟨rfl, HB4.out⟩
end Go.Proofs.YtjecdciabpjgcaaGreatDoor.Lz
