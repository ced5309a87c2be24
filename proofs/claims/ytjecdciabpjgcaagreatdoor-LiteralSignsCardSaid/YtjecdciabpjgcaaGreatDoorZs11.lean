/-
  The walk of the law LiteralSigns, where the _ stands between two digits. Condition: the library's variable internal/bytealg.MaxLen holds a number, and strconv's and math/bits' tables are as their initialisers lay them.
-/
import Derived.Deep.RegionWith
import Derived.Test.YtjecdciabpjgcaaGreatDoorZs0
import Derived.Test.YtjecdciabpjgcaaGreatDoorZs1
import Derived.Test.YtjecdciabpjgcaaGreatDoorZs2
import Derived.Test.YtjecdciabpjgcaaGreatDoorZs3
import Derived.Test.YtjecdciabpjgcaaGreatDoorZs4
import Derived.Test.YtjecdciabpjgcaaGreatDoorZs5
import Derived.Test.YtjecdciabpjgcaaGreatDoorZs6
import Derived.Test.YtjecdciabpjgcaaGreatDoorZs7
import Derived.Test.YtjecdciabpjgcaaGreatDoorZs8
import Derived.Test.YtjecdciabpjgcaaGreatDoorZs9
import Derived.Test.YtjecdciabpjgcaaGreatDoorZs10
namespace Go.Proofs.YtjecdciabpjgcaaGreatDoor.Lz
set_option linter.unusedVariables false
set_option linter.unusedSimpArgs false
open Go.RowKit Go.Proofs.YtjecdciabpjgcaaGreatDoorW.PrintWords Go.Proofs.YtjecdciabpjgcaaGreatDoor.Lx Go.Proofs.YtjecdciabpjgcaaGreatDoor.PLz
set_option maxRecDepth 1000000 in
set_option maxHeartbeats 8000000 in
theorem signs_k6 (bits : Int) (hbits : -9223372036854775808 ≤ bits ∧ bits ≤ 9223372036854775807) (s : ByteArray) (at_ : Int) (w : World) (ht : TW w) (hs1 : 0 < s.size) (hs2 : s.size ≤ 300) (h43 : s[0] ≠ 43) (h45 : s[0] ≠ 45) (n : Nat) (hk : Go.bits .and .i64 at_ 1023 = (n : Int) + 1) (hn : n + 1 < s.size) (h1 : 48 ≤ s[n].toNat) (h2 : s[n].toNat ≤ 57) (h3 : 48 ≤ s[n + 1].toNat) (h4 : s[n + 1].toNat ≤ 57) :
    Calls Tryz.prog 4 #[.int .i64 bits, .string s, .int .i64 at_] w fun e w' => e = .returned (.bool true) ∧ Below w.heap.size w w' := by
  have k0 : ((n : Int) + 1 == 0) = false := by simp only [beq_eq_false_iff_ne, ne_eq]; omega
  have k1 : (n : Int) + 1 < (s.size : Int) := by omega
  have k2 : (n : Int) < (s.size : Int) := by omega
  have k3 : (0 : Int) ≤ (n : Int) := by omega
  have q0 : 48 ≤ (s[n].toNat : Int) := by omega
  have q1 : (s[n].toNat : Int) ≤ 57 := by omega
  have q2 : 48 ≤ (s[n + 1].toNat : Int) := by omega
  have q3 : (s[n + 1].toNat : Int) ≤ 57 := by omega
  have hl : s.data.toList = s[0] :: s.data.toList.drop 1 := by have := drop_at s 0 hs1; rwa [List.drop_zero] at this
  obtain ⟨g1, g2, g3⟩ := signs3 bits s[0] (s.data.toList.drop 1) h43 h45
  rw [← hl] at g1 g2 g3
  obtain ⟨x, hx⟩ : ∃ x, floatF bits s.data.toList = x := ⟨_, rfl⟩
  obtain ⟨z, hz⟩ : ∃ z, floatF bits (45 :: s.data.toList) = z := ⟨_, rfl⟩
  rw [hx] at g1 g2 g3
  rw [hz] at g2 g3
  have hln := len_data s
  have HX := Lib.hid (fun w hm => float_at bits s.data.toList (by rw [hln]; omega) x hx w hm)
  have HY := Lib.hid (fun w hm => float_at bits (43 :: s.data.toList) (by rw [List.length_cons, hln]; omega) x g1 w hm)
  have HZ := Lib.hid (fun w hm => float_at bits (45 :: s.data.toList) (by rw [List.length_cons, hln]; omega) z hz w hm)
  have es : (⟨s.data.toList.toArray⟩ : ByteArray) = s := Lib.mk_data s
  rw [es] at HX
  have e43 : (⟨#[43]⟩ : ByteArray) ++ s = ⟨(43 :: s.data.toList).toArray⟩ := by
    conv => lhs; rw [← es]
    exact ba_app1 [43] _
  have e45 : (⟨#[45]⟩ : ByteArray) ++ s = ⟨(45 :: s.data.toList).toArray⟩ := by
    conv => lhs; rw [← es]
    exact ba_app1 [45] _
  have n1 : (s.size : Int) ≤ 300 := by omega
  have n2 : ((s.size : Int) == 0) = false := by simp only [beq_eq_false_iff_ne, ne_eq]; omega
  have n3 : (0 : Int) < (s.size : Int) := by omega
  have n4 : ((s[0].toNat : Int) == 43) = false := byteT_ne s[0] 43 h43
  have n5 : ((s[0].toNat : Int) == 45) = false := byteT_ne s[0] 45 h45
  have HT := Lib.hid ht
  obtain ⟨xv, xb⟩ := x
  obtain ⟨zv, zb⟩ := z
  simp only at g2
  subst g2
  have hd1 : isdec s[n] = true := by
    unfold isdec
    simp only [Bool.and_eq_true, decide_eq_true_eq, UInt8.le_iff_toNat_le]
    exact ⟨h1, h2⟩
  have hd2 : isdec s[n + 1] = true := by
    unfold isdec
    simp only [Bool.and_eq_true, decide_eq_true_eq, UInt8.le_iff_toNat_le]
    exact ⟨h3, h4⟩
  have hspl : s.data.toList = s.data.toList.take n ++ s[n] :: s[n + 1] :: s.data.toList.drop (n + 2) := by
    conv => lhs; rw [← List.take_append_drop n s.data.toList, drop_at s n (by omega), drop_at s (n + 1) hn]
  have hins := Ins.app (s.data.toList.take n) s[n] s[n + 1] (s.data.toList.drop (n + 2)) hd1 hd2
  rw [← hspl] at hins
  obtain ⟨L, hL⟩ : ∃ L, s.data.toList.take n ++ s[n] :: 95 :: s[n + 1] :: s.data.toList.drop (n + 2) = L := ⟨_, rfl⟩
  rw [hL] at hins
  have hLl : L.length = s.size + 1 := by
    rw [← hL]
    have h := congrArg List.length hspl
    simp only [List.length_append, List.length_cons] at h ⊢
    omega
  have i1 := float_ins bits _ _ hins
  have i2 := int_ins bits _ _ hins
  rw [hx] at i1
  obtain ⟨j, hj⟩ : ∃ j, intF bits s.data.toList = j := ⟨_, rfl⟩
  rw [hj] at i2
  have HI := Lib.hid (fun w hm => int_at bits s.data.toList (by rw [hln]; omega) j hj w hm)
  rw [es] at HI
  have HJ := Lib.hid (fun w hm => int_at bits L (by rw [hLl]; omega) j i2.symm w hm)
  have HE := Lib.hid (fun w hm => float_at bits L (by rw [hLl]; omega) (xv, zb) i1.symm w hm)
  obtain ⟨jv, jb⟩ := j
  have a1 : s.extract 0 (n + 1) ++ (⟨#[95]⟩ : ByteArray) = ⟨(s.data.toList.take (n + 1) ++ [95]).toArray⟩ := by
    have := ba_app1 (s.data.toList.take (n + 1)) [95]
    rw [← this, Lib.extract_eq, List.drop_zero, Nat.sub_zero]
  have a2 : (⟨(s.data.toList.take (n + 1) ++ [95]).toArray⟩ : ByteArray) ++ s.extract (n + 1) s.size = ⟨L.toArray⟩ := by
    have := ba_app1 (s.data.toList.take (n + 1) ++ [95]) (s.data.toList.drop (n + 1))
    have ht : (s.data.toList.drop (n + 1)).take (s.size - (n + 1)) = s.data.toList.drop (n + 1) := List.take_of_length_le (by rw [List.length_drop, hln]; omega)
    rw [Lib.extract_eq, ht, this, ← hL]
    congr 2
    have e1 : s.data.toList.take (n + 1) = s.data.toList.take n ++ [s[n]] := by
      rw [List.take_add_one, List.getElem?_eq_getElem (by rw [hln]; omega)]
      rfl
    rw [e1, drop_at s (n + 1) hn]
    simp
  have z1 : (s.extract 0 (n + 1)).size = n + 1 := by rw [ByteArray.size_extract]; omega
  have z2 : (⟨(s.data.toList.take (n + 1) ++ [95]).toArray⟩ : ByteArray).size = n + 2 := by rw [size_arr]; simp [hln]; omega
  have z3 : (s.extract (n + 1) s.size).size = s.size - (n + 1) := by rw [ByteArray.size_extract]; omega
  simp only at HI HJ HE
  clear hd1 hd2 hspl hins i1 i2 hj hL
  simp only at HX HY HZ g3
  clear hl h43 h45 g1 hx hz hln es ht hs2
  cases zb
  · clear g3
    go_enter Tryz.func4, Tryz.ntmps4
    go_wp2_with (first | (go_at_call 9; refine (awake_c _ HT.out).mono ?_; intro e w0 hq; obtain ⟨he, hb⟩ := hq.out; subst he; have HB0 := Lib.hid hb; clear hb hq) | (go_at_call 12; ((with_reducible refine (HX.out _ (HT.out.ml.below HB0.out)).mono ?_)); rintro e w1 ⟨rfl, hb⟩; have HB1 := Lib.hid (below_step HB0.out hb); clear hb) | (go_at_call 12; ((with_reducible refine (HY.out _ (HT.out.ml.below HB1.out)).mono ?_)); rintro e w2 ⟨rfl, hb⟩; have HB2 := Lib.hid (below_step HB1.out hb); clear hb) | (go_at_call 12; ((with_reducible refine (HZ.out _ (HT.out.ml.below HB2.out)).mono ?_)); rintro e w3 ⟨rfl, hb⟩; have HB3 := Lib.hid (below_step HB2.out hb); clear hb))
    have HB3d := Lib.hid (below_drew HB3.out)
    go_region_with (go_at_call 12; ((with_reducible refine (HE.out _ (HT.out.ml.below HB3d.out)).mono ?_)); rintro e w4 ⟨rfl, hb⟩; have HB4 := Lib.hid (below_step HB3d.out hb); clear hb)
    all_goals
      go_simp
      go_wp2_with (first | (go_at_call 10; ((with_reducible refine (HI.out _ (HT.out.ml.below HB4.out)).mono ?_)); rintro e w5 ⟨rfl, hb⟩; have HB5 := Lib.hid (below_step HB4.out hb); clear hb))
      have HB5d := Lib.hid (below_drew HB5.out)
      go_region_with (go_at_call 10; ((with_reducible refine (HJ.out _ (HT.out.ml.below HB5d.out)).mono ?_)); rintro e w6 ⟨rfl, hb⟩; have HB6 := Lib.hid (below_step HB5d.out hb); clear hb)
      all_goals
        go_simp
        go_wp2
        go_ret
        exact ⟨rfl, HB6.out⟩
  · obtain ⟨b1, b2, b3, b4⟩ := g3 rfl
    have t32 : topI 32 = 2147483648 := rfl
    have t64 : topI 64 = 9223372036854775808 := rfl
    clear g3
    rcases b1 with rfl | rfl
    all_goals
      (first | rw [t32] at b3 b4 | rw [t64] at b3 b4)
      first
        | (have b7 : IntKind.u64.wrap (xv + 2147483648) = zv := by rw [IntKind.wrap_u64]; omega)
        | (have b7 : IntKind.u64.wrap (xv + 9223372036854775808) = zv := by rw [IntKind.wrap_u64]; omega)
      clear b4 b2 b3 t32 t64
      go_enter Tryz.func4, Tryz.ntmps4
      go_wp2_with (first | (go_at_call 9; refine (awake_c _ HT.out).mono ?_; intro e w0 hq; obtain ⟨he, hb⟩ := hq.out; subst he; have HB0 := Lib.hid hb; clear hb hq) | (go_at_call 12; ((with_reducible refine (HX.out _ (HT.out.ml.below HB0.out)).mono ?_)); rintro e w1 ⟨rfl, hb⟩; have HB1 := Lib.hid (below_step HB0.out hb); clear hb) | (go_at_call 12; ((with_reducible refine (HY.out _ (HT.out.ml.below HB1.out)).mono ?_)); rintro e w2 ⟨rfl, hb⟩; have HB2 := Lib.hid (below_step HB1.out hb); clear hb) | (go_at_call 12; ((with_reducible refine (HZ.out _ (HT.out.ml.below HB2.out)).mono ?_)); rintro e w3 ⟨rfl, hb⟩; have HB3 := Lib.hid (below_step HB2.out hb); clear hb))
      have HB3d := Lib.hid (below_drew HB3.out)
      go_region_with (go_at_call 12; ((with_reducible refine (HE.out _ (HT.out.ml.below HB3d.out)).mono ?_)); rintro e w4 ⟨rfl, hb⟩; have HB4 := Lib.hid (below_step HB3d.out hb); clear hb)
      all_goals
        go_simp
        go_wp2_with (first | (go_at_call 10; ((with_reducible refine (HI.out _ (HT.out.ml.below HB4.out)).mono ?_)); rintro e w5 ⟨rfl, hb⟩; have HB5 := Lib.hid (below_step HB4.out hb); clear hb))
        have HB5d := Lib.hid (below_drew HB5.out)
        go_region_with (go_at_call 10; ((with_reducible refine (HJ.out _ (HT.out.ml.below HB5d.out)).mono ?_)); rintro e w6 ⟨rfl, hb⟩; have HB6 := Lib.hid (below_step HB5d.out hb); clear hb)
        all_goals
          go_simp
          go_wp2
          go_ret
          exact ⟨rfl, HB6.out⟩
end Go.Proofs.YtjecdciabpjgcaaGreatDoor.Lz
