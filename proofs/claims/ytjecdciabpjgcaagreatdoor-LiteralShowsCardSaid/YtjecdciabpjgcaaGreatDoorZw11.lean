/-
  The walk of the reference's ShowFloat of chapter 8. No condition but that a word is one.
  What the document's examples of chapter 8 come to (plain, no program in sight). No condition.
  The walk of chapter 8's awake. Condition: the library's variable internal/bytealg.MaxLen holds a number, and strconv's and math/bits' tables are as their initialisers lay them.
  A row's contract with the world's shape; the library's variable internal/bytealg.MaxLen holds a number in a shaped world. Condition: none.
  What the rows of chapter 8 list of the library's variables gives the walks what they ask: math/bits' table and strconv's powers of ten; internal/bytealg.MaxLen's number comes of the world's shape. No condition.
  The walk of the law LiteralShows, for any arguments. Condition: the library's variable internal/bytealg.MaxLen holds a number, and strconv's and math/bits' tables are as their initialisers lay them.
-/
import Derived.Shelf.Vars
import Derived.Handed
import Derived.SizedLaws
import Derived.Test.YtjecdciabpjgcaaGreatDoorRows
import Derived.ProofKit
import Derived.OpenShut
import Derived.LaidMore
import Derived.Stop.Joined
import Derived.SevenTiedAt
import Derived.MakeChecks
import Derived.Test.YtjecdciabpjgcaaGreatDoorZw0
import Derived.Test.YtjecdciabpjgcaaGreatDoorZw1
import Derived.Test.YtjecdciabpjgcaaGreatDoorZw2
import Derived.Test.YtjecdciabpjgcaaGreatDoorZw3
import Derived.Test.YtjecdciabpjgcaaGreatDoorZw4
import Derived.Test.YtjecdciabpjgcaaGreatDoorZw5
import Derived.Test.YtjecdciabpjgcaaGreatDoorZw6
import Derived.Test.YtjecdciabpjgcaaGreatDoorZw7
import Derived.Test.YtjecdciabpjgcaaGreatDoorZw8
import Derived.Test.YtjecdciabpjgcaaGreatDoorZw9
import Derived.Test.YtjecdciabpjgcaaGreatDoorZw10
namespace Go.Proofs.YtjecdciabpjgcaaGreatDoor.Lz
set_option linter.unusedVariables false
set_option linter.unusedSimpArgs false
open Go.RowKit Go.Proofs.YtjecdciabpjgcaaGreatDoorW.PrintWords Go.Proofs.YtjecdciabpjgcaaGreatDoor.Lx Go.Proofs.YtjecdciabpjgcaaGreatDoor.PLz
theorem frac_32 (w : World) : Calls Tryz.prog 44 #[.int .i64 32] w fun e w' => e = .returned (.int .i64 23) ∧ w = w' := by
  go_enter Tryz.func44, Tryz.ntmps44
  go_wp2
  go_ret
  exact ⟨rfl, rfl⟩
theorem kindP_32 (v : Nat) (hv : v < 18446744073709551616) : Fl.kindF 32 (v : Int) = if plainV 32 v = 0 then 1 else if 2139095040 < plainV 32 v then 4 else if plainV 32 v = 2139095040 then 3 else 2 := by
  have hf : Fl.fmtOf 32 = Ieee.single := rfl
  have hr : Fl.rungOf Ieee.single (Fl.wOf 32 (v : Int)) = plainV 32 v := by
    unfold Fl.rungOf plainV Fl.wOf
    rw [Fl.s_sgn]
    rw [if_pos rfl]
    have e : (2 : Nat) ^ (32 - 1) = 2147483648 := by decide
    rw [e]
    omega
  unfold Fl.kindF Fl.nanW
  rw [if_neg (by decide), hf, hr, Fl.s_inf]
  simp only [decide_eq_true_eq, Nat.reduceMul]
set_option maxRecDepth 1000000 in
set_option maxHeartbeats 8000000 in
theorem refShowFloat_32 (v : Nat) (hv : v < 18446744073709551616) (w : World) :
    Calls Tryz.prog 16 #[.int .i64 32, .int .u64 (v : Int)] w fun e w' => e = .returned (.string ⟨(showF 32 v).toArray⟩) ∧ Below w.heap.size w w' := by
  have hkp := kindP_32 v hv
  have hpsw : plainV 32 v < 2147483648 := by
    have := plain_lt 32 v
    have e : (2 : Nat) ^ (32 - 1) = 2147483648 := by decide
    rw [e] at this; exact this
  have hkpp := kindP_32 (plainV 32 v) (by omega)
  have hpp : plainV 32 (plainV 32 v) = plainV 32 v := by
    have e : (2 : Nat) ^ (32 - 1) = 2147483648 := by decide
    show plainV 32 v % 2 ^ (32 - 1) = _
    rw [e]
    exact Nat.mod_eq_of_lt hpsw
  rw [hpp] at hkpp
  have hk2 := hkpp.trans hkp.symm
  have htp := two_parts 32 v (by decide)
  obtain ⟨kd, hkd⟩ : ∃ kd, Fl.kindF 32 (v : Int) = kd := ⟨_, rfl⟩
  have HK := Lib.hid (fun w => Ref.kind_right 32 (v : Int) w (.inl rfl))
  have HP2 := Lib.hid (fun h2 : kd = 2 => parts_two 32 (.inl rfl) v hv (hkd.trans h2))
  rw [show (32 : Int).toNat = 32 from rfl] at HP2
  rw [hkd] at HK hkp hk2
  have HCT := Lib.hid (fun w => refCut_c 32 (.inr (.inr (.inl rfl))) v hv w)
  have hcK : ((32 : Nat) : Int) = 32 := rfl
  rw [hcK] at HCT
  have HCA := Lib.hid (fun w => Ref.canon_c 32 w (.inl rfl))
  have hcan : Fl.canon 32 = 2143289344 := rfl
  rw [hcan] at HCA
  obtain ⟨R, hR⟩ : ∃ R, showF 32 v = R := ⟨_, rfl⟩
  rw [hR]
  unfold showF at hR
  rw [show (32 : Int).toNat = 32 from rfl] at hR
  simp only [hkd, hcan] at hR
  have hinf : infF 32 = 2139095040 := by decide +kernel
  rw [hinf] at hR
  obtain ⟨sg, hsg⟩ : ∃ sg, signT 32 v = sg := ⟨_, rfl⟩
  rw [hsg] at hR
  unfold signT at hsg
  obtain ⟨V, hV⟩ : ∃ V, v % 2 ^ 32 = V := ⟨_, rfl⟩
  rw [hV] at HCT htp
  have esw : (2 : Nat) ^ (32 - 1) = 2147483648 := by decide
  rw [esw] at htp hsg
  have hsb : (V < 2147483648 ∧ V = plainV 32 v ∧ sg = []) ∨ (2147483648 ≤ V ∧ V = plainV 32 v + 2147483648 ∧ sg = [45]) := by
    by_cases h : v / 2147483648 % 2 = 1
    · rw [if_pos h] at htp hsg
      exact .inr ⟨by omega, htp, hsg.symm⟩
    · rw [if_neg h] at htp hsg
      exact .inl ⟨by omega, by omega, hsg.symm⟩
  have hPT : kd = 2 → ∀ (M : Nat) (E : Int), Pure.partsF 32 (plainV 32 v) = (false, (M : Int), E, 0) → plainV 32 v < 2139095040 → ∀ w, Calls Tryz.prog 47 #[.int .i64 32, .int .u64 (plainV 32 v : Int)] w fun e w' => e = .returned (.tuple #[.bool false, .int .u64 (M : Int), .int .i64 E, .int .i64 0]) ∧ Below w.heap.size w w' :=
    fun h M E hM hi w => refParts_32 (plainV 32 v) hpsw hi (hk2.trans h) M E hM w
  obtain ⟨p, hp⟩ : ∃ p, plainV 32 v = p := ⟨_, rfl⟩
  rw [hp] at hkp hpsw HP2 hR hsb hPT
  have HPT := Lib.hid hPT
  have HRR0 := Lib.hid hR
  have hVl : V ≤ 4294967295 := by rcases hsb with ⟨h1, h2, _⟩ | ⟨h1, h2, _⟩ <;> omega
  obtain ⟨F, hF⟩ : ∃ F, p % 8388608 = F := ⟨_, rfl⟩
  have hFI : (p : Int) % 8388608 = (F : Int) := by omega
  have hkr : 1 ≤ kd ∧ kd ≤ 4 := by rw [hkp]; split <;> (try split) <;> (try split) <;> omega
  have hk0 : (kd == 0) = false := by simp only [beq_eq_false_iff_ne, ne_eq]; omega
  have HKP := Lib.hid hkp
  have HPS := Lib.hid hpsw
  have HVL := Lib.hid hVl
  clear hPT hR hp hV htp hsg hk2 hkd hpp hkpp hcan hinf hv esw hcK hkp hpsw hVl hF
  go_enter Tryz.func16, Tryz.ntmps16
  go_upto_if 25 with (first | (go_at_call 43; refine (HK.out _).mono ?_; rintro e w1 ⟨rfl, hd⟩; have HB1 := Lib.hid hd.below; clear hd) | (go_at_call 31; ((with_reducible refine (HCT.out _).mono ?_)); rintro e w2 ⟨rfl, hd⟩; have HB2 := Lib.hid (below_step HB1.out hd.below); clear hd))
  go_cut [1, 6] (fun v1 v6 wc => v1 = .int .u64 (p : Int) ∧ v6 = .string ⟨sg.toArray⟩ ∧ Below w.heap.size w wc)
  case first =>
    rcases hsb with ⟨h1, h2, h3⟩ | ⟨h1, h2, h3⟩
    · subst h2; subst h3
      have h1I : decide ((2147483648 : Int) ≤ (V : Int)) = false := decide_eq_false (by omega)
      rw [h1I]
      clear h1 h1I
      go_wp2
      go_meet
      case rel => exact ⟨rfl, rfl, HB2.out⟩
    · subst h3
      have h1I : decide ((2147483648 : Int) ≤ (V : Int)) = true := decide_eq_true (by omega)
      have hvl := HVL.out
      have h2I : (V : Int) - 2147483648 = (p : Int) := by omega
      have h3I : IntKind.u64.wrap ((V : Int) - 2147483648) = (p : Int) := by rw [IntKind.wrap_u64]; omega
      have h4I : IntKind.u64.wrap (p : Int) = (p : Int) := by rw [IntKind.wrap_u64]; omega
      rw [h1I]
      clear h1 h2 h1I hvl
      go_wp2
      go_meet
      case rel => exact ⟨by simp [h2I, h4I], rfl, HB2.out⟩
  case rest =>
    obtain ⟨rfl, rfl, hb3⟩ := hcut
    have HB3 := Lib.hid hb3
    have hsl : sg.length ≤ 1 := by rcases hsb with ⟨_, _, h⟩ | ⟨_, _, h⟩ <;> rw [h] <;> simp
    have hsz : (⟨sg.toArray⟩ : ByteArray).size = sg.length := size_arr sg
    clear hb3 hsb
    have hR := HRR0.out
    clear HRR0
    rw [if_neg (by omega)] at hR
    by_cases hk1 : kd = 1
    · rw [if_pos hk1] at hR
      have HRR := Lib.hid hR
      have hap : (⟨sg.toArray⟩ : ByteArray) ++ ⟨#[48, 120, 48, 112, 48]⟩ = ⟨(sg ++ [48, 120, 48, 112, 48]).toArray⟩ := ba_app1 sg [48, 120, 48, 112, 48]
      subst hk1
      clear hR hkr hk0 HK
      go_wp2
      go_ret
      exact ⟨by rw [← HRR.out, ← hap]; rfl, HB3.out⟩
    · rw [if_neg hk1] at hR
      have q1 : (kd == 1) = false := by simpa using hk1
      by_cases hk3 : kd = 3
      · rw [if_pos hk3] at hR
        have HRR := Lib.hid hR
        have hap : (⟨sg.toArray⟩ : ByteArray) ++ ⟨#[105, 110, 102]⟩ = ⟨(sg ++ [105, 110, 102]).toArray⟩ := ba_app1 sg [105, 110, 102]
        subst hk3
        clear hR hkr hk0 HK q1 hk1
        go_wp2
        go_ret
        exact ⟨by rw [← HRR.out, ← hap]; rfl, HB3.out⟩
      · rw [if_neg hk3] at hR
        have q3 : (kd == 3) = false := by simpa using hk3
        by_cases hk4 : kd = 4
        · have hpi : 2139095040 < p := by
            have hkp := HKP.out
            rw [hk4] at hkp
            by_cases z : p = 0
            · rw [if_pos z] at hkp; cases hkp
            · rw [if_neg z] at hkp
              by_cases g : 2139095040 < p
              · exact g
              · rw [if_neg g] at hkp
                by_cases y : p = 2139095040
                · rw [if_pos y] at hkp; cases hkp
                · rw [if_neg y] at hkp; cases hkp
          subst hk4
          by_cases hcn : (p : Int) = 2143289344
          · rw [if_pos hcn] at hR
            have HRR := Lib.hid hR
            have hap : (⟨sg.toArray⟩ : ByteArray) ++ ⟨#[110, 97, 110]⟩ = ⟨(sg ++ [110, 97, 110]).toArray⟩ := ba_app1 sg [110, 97, 110]
            have q4 : ((p : Int) == 2143289344) = true := by simpa using hcn
            clear hR hkr hk0 HK hk1 hk3 hcn q1 q3 hpi
            go_wp2_with (first | (go_at_call 44; refine (frac_32 _).mono ?_; rintro e wf ⟨rfl, rfl⟩) | (go_at_call 45; refine (HCA.out _).mono ?_; rintro e w4 ⟨rfl, rfl⟩))
            go_ret
            exact ⟨by rw [← HRR.out, ← hap]; rfl, HB3.out⟩
          · rw [if_neg hcn, if_pos rfl] at hR
            have q4 : ((p : Int) == 2143289344) = false := by simpa using hcn
            have hFI2 := HPS.out
            have hn : (IntKind.u64.wrap ((p : Int) - 2139095040)).toNat = F := by rw [IntKind.wrap_u64]; omega
            rw [hn] at hR
            have HRR := Lib.hid hR
            have hFl : F < 18446744073709551616 := by omega
            have hhl := hexT_len 16 F (by rw [p16]; exact hFl) (by omega)
            have HFU := Lib.hid (fun w => refHex_c F hFl w)
            obtain ⟨X, hX⟩ : ∃ X, hexT F = X := ⟨_, rfl⟩
            rw [hX] at HFU HRR hhl
            have hXs : (⟨X.toArray⟩ : ByteArray).size = X.length := size_arr X
            have hap : (⟨sg.toArray⟩ : ByteArray) ++ ⟨#[110, 97, 110, 58, 48, 120]⟩ = ⟨(sg ++ [110, 97, 110, 58, 48, 120]).toArray⟩ := ba_app1 sg [110, 97, 110, 58, 48, 120]
            have hap2 : (⟨(sg ++ [110, 97, 110, 58, 48, 120]).toArray⟩ : ByteArray) ++ ⟨X.toArray⟩ = ⟨(sg ++ [110, 97, 110, 58, 48, 120] ++ X).toArray⟩ := ba_app1 _ _
            have hps : (⟨(sg ++ [110, 97, 110, 58, 48, 120]).toArray⟩ : ByteArray).size = sg.length + 6 := by rw [size_arr]; simp
            clear hR hkr hk0 HK hk1 hk3 hcn hX hFl q1 q3 hn hpi hFI2
            go_wp2_with (first | (go_at_call 44; refine (frac_32 _).mono ?_; rintro e wf ⟨rfl, rfl⟩) | (go_at_call 45; refine (HCA.out _).mono ?_; rintro e w4 ⟨rfl, rfl⟩) | (go_at_call 46; ((with_reducible refine (HFU.out _).mono ?_)); rintro e w5 ⟨rfl, hd⟩; have HB5 := Lib.hid (below_step HB3.out hd.below); clear hd))
            go_ret
            have e : sg ++ 110 :: 97 :: 110 :: 58 :: 48 :: 120 :: X = R := by rw [← HRR.out]; simp
            exact ⟨by rw [← e]; rfl, HB5.out⟩
        · have hk2 : kd = 2 := by omega
          have hpi : p < 2139095040 := by
            have hkp := HKP.out
            rw [hk2] at hkp
            by_cases z : p = 0
            · rw [if_pos z] at hkp; cases hkp
            · rw [if_neg z] at hkp
              by_cases g : 2139095040 < p
              · rw [if_pos g] at hkp; cases hkp
              · rw [if_neg g] at hkp
                by_cases y : p = 2139095040
                · rw [if_pos y] at hkp; cases hkp
                · omega
          rw [if_neg (by omega), if_neg hk4] at hR
          have q5 : (kd == 4) = false := by simpa using hk4
          obtain ⟨M, E, hM, hM0, hMl, hE1, hE2⟩ := HP2.out hk2
          have HPA := Lib.hid (fun w => HPT.out hk2 M E hM hpi w)
          rw [hM] at hR
          simp only [Int.toNat_natCast] at hR
          obtain ⟨sr, hsr⟩ : ∃ sr, strip M E = sr := ⟨_, rfl⟩
          rw [hsr] at hR
          have HRR := Lib.hid hR
          have HSR := Lib.hid hsr
          clear hR hkr hk0 HK hk1 hk3 hk4 hk2 hM hsr hpi
          go_upto_block 2 with (first | (go_at_call 44; refine (frac_32 _).mono ?_; rintro e wf ⟨rfl, rfl⟩) | (go_at_call 47; refine (HPA.out _).mono ?_; rintro x w4 ⟨rfl, hb⟩; have HB6 := Lib.hid (below_step HB3.out hb); clear hb))
          go_loopw [9, 10] (SfR w M E) (fun v9 _ _ => numV v9)
          case atStart =>
            exact ⟨M, 0, rfl, by simp, hM0, by simp, by simp, HB6.out⟩
          case round =>
            obtain ⟨m, j, rfl, rfl, hm0, hMm, hst, hb7⟩ := hrel.out
            clear hrel
            rename World => W
            have hj := pow_bound m j hm0 (by rw [← hMm]; exact hMl)
            have hml : m < 18446744073709551616 := by
              have : m * 1 ≤ m * 2 ^ j := Nat.mul_le_mul_left _ (Nat.one_le_two_pow)
              omega
            have HB7 := Lib.hid hb7
            have HMM := Lib.hid hMm
            have HST := Lib.hid hst
            clear hb7 hMm hst
            by_cases hev : m % 2 = 0
            · have hevI : ((m : Int) % 2 == 0) = true := by simp only [beq_iff_eq]; omega
              go_wp2
              go_roundw
              case rel =>
                refine ⟨m / 2, j + 1, by push_cast; rfl, by push_cast; congr 1; omega, by omega, ?_, ?_, HB7.out⟩
                · rw [HMM.out, Nat.pow_succ, Nat.mul_comm (2 ^ j), ← Nat.mul_assoc]
                  congr 1
                  omega
                · rw [HST.out, strip_even m _ hev hm0]
                  congr 1
                  push_cast
                  omega
              case measure =>
                simp only [numV]
                omega
            · have hod : strip M E = (m, E + (j : Int)) := by rw [HST.out, strip_odd m _ (by omega)]
              have hsr := HSR.out
              rw [hod] at hsr
              have hR := HRR.out
              rw [← hsr] at hR
              simp only at hR
              have hhl := hexT_len 16 m (by rw [p16]; exact hml) (by omega)
              have HFU := Lib.hid (fun w => refHex_c m hml w)
              obtain ⟨e, he⟩ : ∃ e, E + (j : Int) = e := ⟨_, rfl⟩
              have her : -1074 ≤ e ∧ e ≤ 2200 := by omega
              rw [he] at hR
              have HIT := Lib.hid (fun w => refNumber_c e (by omega) w)
              have hil := Lib.itoa_length_le e (by omega) (by omega)
              obtain ⟨X, hX⟩ : ∃ X, hexT m = X := ⟨_, rfl⟩
              rw [hX] at HFU hR hhl
              obtain ⟨Y, hY⟩ : ∃ Y, Lib.itoa e = Y := ⟨_, rfl⟩
              rw [hY] at HIT hR hil
              have HR := Lib.hid hR
              have hXs : (⟨X.toArray⟩ : ByteArray).size = X.length := size_arr X
              have hYs : (⟨Y.toArray⟩ : ByteArray).size = Y.length := size_arr Y
              have a1 : (⟨sg.toArray⟩ : ByteArray) ++ ⟨#[48, 120]⟩ = ⟨(sg ++ [48, 120]).toArray⟩ := ba_app1 sg [48, 120]
              have a2 : (⟨(sg ++ [48, 120]).toArray⟩ : ByteArray) ++ ⟨X.toArray⟩ = ⟨(sg ++ [48, 120] ++ X).toArray⟩ := ba_app1 _ _
              have a3 : (⟨(sg ++ [48, 120] ++ X).toArray⟩ : ByteArray) ++ ⟨#[112]⟩ = ⟨(sg ++ [48, 120] ++ X ++ [112]).toArray⟩ := ba_app1 _ _
              have a4 : (⟨(sg ++ [48, 120] ++ X ++ [112]).toArray⟩ : ByteArray) ++ ⟨Y.toArray⟩ = ⟨(sg ++ [48, 120] ++ X ++ [112] ++ Y).toArray⟩ := ba_app1 _ _
              have s1 : (⟨(sg ++ [48, 120]).toArray⟩ : ByteArray).size = sg.length + 2 := by rw [size_arr]; simp
              have s2 : (⟨(sg ++ [48, 120] ++ X).toArray⟩ : ByteArray).size = sg.length + 2 + X.length := by rw [size_arr]; simp; omega
              have s3 : (⟨(sg ++ [48, 120] ++ X ++ [112]).toArray⟩ : ByteArray).size = sg.length + 2 + X.length + 1 := by rw [size_arr]; simp; omega
              have hodI : ((m : Int) % 2 == 0) = false := by simp only [beq_eq_false_iff_ne, ne_eq]; omega
              clear hsr hod hX hY hml hM0 hMl hE1 hE2 hm0 hj hR HRR hev
              go_wp2_with (first | (go_at_call 46; ((with_reducible refine (HFU.out _).mono ?_)); rintro e w8 ⟨rfl, hd⟩; have HB8 := Lib.hid (below_step HB7.out hd.below); clear hd) | (go_at_call 41; ((with_reducible refine (HIT.out _).mono ?_)); rintro e w9 ⟨rfl, hd⟩; have HB9 := Lib.hid (below_step HB8.out hd.below); clear hd))
              go_ret
              have e : sg ++ 48 :: 120 :: X ++ [112] ++ Y = R := by rw [← HR.out]; simp
              have z1 := ba_app1 (sg ++ 48 :: 120 :: X) [112]
              have z2 := ba_app1 (sg ++ 48 :: 120 :: X ++ [112]) Y
              rw [e] at z2
              exact ⟨congrArg (fun b => Ending.returned (.string b)) ((congrArg (· ++ (⟨Y.toArray⟩ : ByteArray)) z1).trans z2), HB9.out⟩
theorem frac_64 (w : World) : Calls Tryz.prog 44 #[.int .i64 64] w fun e w' => e = .returned (.int .i64 52) ∧ w = w' := by
  go_enter Tryz.func44, Tryz.ntmps44
  go_wp2
  go_ret
  exact ⟨rfl, rfl⟩
theorem kindP_64 (v : Nat) (hv : v < 18446744073709551616) : Fl.kindF 64 (v : Int) = if plainV 64 v = 0 then 1 else if 9218868437227405312 < plainV 64 v then 4 else if plainV 64 v = 9218868437227405312 then 3 else 2 := by
  have hf : Fl.fmtOf 64 = Ieee.double := rfl
  have hr : Fl.rungOf Ieee.double (Fl.wOf 64 (v : Int)) = plainV 64 v := by
    unfold Fl.rungOf plainV Fl.wOf
    rw [Fl.d_sgn]
    rw [if_neg (by decide)]
    have e : (2 : Nat) ^ (64 - 1) = 9223372036854775808 := by decide
    rw [e]
    omega
  unfold Fl.kindF Fl.nanW
  rw [if_neg (by decide), hf, hr, Fl.d_inf]
  simp only [decide_eq_true_eq, Nat.reduceMul]
set_option maxRecDepth 1000000 in
set_option maxHeartbeats 8000000 in
theorem refShowFloat_64 (v : Nat) (hv : v < 18446744073709551616) (w : World) :
    Calls Tryz.prog 16 #[.int .i64 64, .int .u64 (v : Int)] w fun e w' => e = .returned (.string ⟨(showF 64 v).toArray⟩) ∧ Below w.heap.size w w' := by
  have hkp := kindP_64 v hv
  have hpsw : plainV 64 v < 9223372036854775808 := by
    have := plain_lt 64 v
    have e : (2 : Nat) ^ (64 - 1) = 9223372036854775808 := by decide
    rw [e] at this; exact this
  have hkpp := kindP_64 (plainV 64 v) (by omega)
  have hpp : plainV 64 (plainV 64 v) = plainV 64 v := by
    have e : (2 : Nat) ^ (64 - 1) = 9223372036854775808 := by decide
    show plainV 64 v % 2 ^ (64 - 1) = _
    rw [e]
    exact Nat.mod_eq_of_lt hpsw
  rw [hpp] at hkpp
  have hk2 := hkpp.trans hkp.symm
  have htp := two_parts 64 v (by decide)
  obtain ⟨kd, hkd⟩ : ∃ kd, Fl.kindF 64 (v : Int) = kd := ⟨_, rfl⟩
  have HK := Lib.hid (fun w => Ref.kind_right 64 (v : Int) w (.inr rfl))
  have HP2 := Lib.hid (fun h2 : kd = 2 => parts_two 64 (.inr rfl) v hv (hkd.trans h2))
  rw [show (64 : Int).toNat = 64 from rfl] at HP2
  rw [hkd] at HK hkp hk2
  have HCT := Lib.hid (fun w => refCut_c 64 (.inr (.inr (.inr rfl))) v hv w)
  have hcK : ((64 : Nat) : Int) = 64 := rfl
  rw [hcK] at HCT
  have HCA := Lib.hid (fun w => Ref.canon_c 64 w (.inr rfl))
  have hcan : Fl.canon 64 = 9221120237041090560 := rfl
  rw [hcan] at HCA
  obtain ⟨R, hR⟩ : ∃ R, showF 64 v = R := ⟨_, rfl⟩
  rw [hR]
  unfold showF at hR
  rw [show (64 : Int).toNat = 64 from rfl] at hR
  simp only [hkd, hcan] at hR
  have hinf : infF 64 = 9218868437227405312 := by decide +kernel
  rw [hinf] at hR
  obtain ⟨sg, hsg⟩ : ∃ sg, signT 64 v = sg := ⟨_, rfl⟩
  rw [hsg] at hR
  unfold signT at hsg
  obtain ⟨V, hV⟩ : ∃ V, v % 2 ^ 64 = V := ⟨_, rfl⟩
  rw [hV] at HCT htp
  have esw : (2 : Nat) ^ (64 - 1) = 9223372036854775808 := by decide
  rw [esw] at htp hsg
  have hsb : (V < 9223372036854775808 ∧ V = plainV 64 v ∧ sg = []) ∨ (9223372036854775808 ≤ V ∧ V = plainV 64 v + 9223372036854775808 ∧ sg = [45]) := by
    by_cases h : v / 9223372036854775808 % 2 = 1
    · rw [if_pos h] at htp hsg
      exact .inr ⟨by omega, htp, hsg.symm⟩
    · rw [if_neg h] at htp hsg
      exact .inl ⟨by omega, by omega, hsg.symm⟩
  have hPT : kd = 2 → ∀ (M : Nat) (E : Int), Pure.partsF 64 (plainV 64 v) = (false, (M : Int), E, 0) → plainV 64 v < 9218868437227405312 → ∀ w, Calls Tryz.prog 47 #[.int .i64 64, .int .u64 (plainV 64 v : Int)] w fun e w' => e = .returned (.tuple #[.bool false, .int .u64 (M : Int), .int .i64 E, .int .i64 0]) ∧ Below w.heap.size w w' :=
    fun h M E hM hi w => refParts_64 (plainV 64 v) hpsw hi (hk2.trans h) M E hM w
  obtain ⟨p, hp⟩ : ∃ p, plainV 64 v = p := ⟨_, rfl⟩
  rw [hp] at hkp hpsw HP2 hR hsb hPT
  have HPT := Lib.hid hPT
  have HRR0 := Lib.hid hR
  have hVl : V ≤ 18446744073709551615 := by rcases hsb with ⟨h1, h2, _⟩ | ⟨h1, h2, _⟩ <;> omega
  obtain ⟨F, hF⟩ : ∃ F, p % 4503599627370496 = F := ⟨_, rfl⟩
  have hFI : (p : Int) % 4503599627370496 = (F : Int) := by omega
  have hkr : 1 ≤ kd ∧ kd ≤ 4 := by rw [hkp]; split <;> (try split) <;> (try split) <;> omega
  have hk0 : (kd == 0) = false := by simp only [beq_eq_false_iff_ne, ne_eq]; omega
  have HKP := Lib.hid hkp
  have HPS := Lib.hid hpsw
  have HVL := Lib.hid hVl
  clear hPT hR hp hV htp hsg hk2 hkd hpp hkpp hcan hinf hv esw hcK hkp hpsw hVl hF
  go_enter Tryz.func16, Tryz.ntmps16
  go_upto_if 25 with (first | (go_at_call 43; refine (HK.out _).mono ?_; rintro e w1 ⟨rfl, hd⟩; have HB1 := Lib.hid hd.below; clear hd) | (go_at_call 31; ((with_reducible refine (HCT.out _).mono ?_)); rintro e w2 ⟨rfl, hd⟩; have HB2 := Lib.hid (below_step HB1.out hd.below); clear hd))
  go_cut [1, 6] (fun v1 v6 wc => v1 = .int .u64 (p : Int) ∧ v6 = .string ⟨sg.toArray⟩ ∧ Below w.heap.size w wc)
  case first =>
    rcases hsb with ⟨h1, h2, h3⟩ | ⟨h1, h2, h3⟩
    · subst h2; subst h3
      have h1I : decide ((9223372036854775808 : Int) ≤ (V : Int)) = false := decide_eq_false (by omega)
      rw [h1I]
      clear h1 h1I
      go_wp2
      go_meet
      case rel => exact ⟨rfl, rfl, HB2.out⟩
    · subst h3
      have h1I : decide ((9223372036854775808 : Int) ≤ (V : Int)) = true := decide_eq_true (by omega)
      have hvl := HVL.out
      have h2I : (V : Int) - 9223372036854775808 = (p : Int) := by omega
      have h3I : IntKind.u64.wrap ((V : Int) - 9223372036854775808) = (p : Int) := by rw [IntKind.wrap_u64]; omega
      have h4I : IntKind.u64.wrap (p : Int) = (p : Int) := by rw [IntKind.wrap_u64]; omega
      rw [h1I]
      clear h1 h2 h1I hvl
      go_wp2
      go_meet
      case rel => exact ⟨by simp [h2I, h4I], rfl, HB2.out⟩
  case rest =>
    obtain ⟨rfl, rfl, hb3⟩ := hcut
    have HB3 := Lib.hid hb3
    have hsl : sg.length ≤ 1 := by rcases hsb with ⟨_, _, h⟩ | ⟨_, _, h⟩ <;> rw [h] <;> simp
    have hsz : (⟨sg.toArray⟩ : ByteArray).size = sg.length := size_arr sg
    clear hb3 hsb
    have hR := HRR0.out
    clear HRR0
    rw [if_neg (by omega)] at hR
    by_cases hk1 : kd = 1
    · rw [if_pos hk1] at hR
      have HRR := Lib.hid hR
      have hap : (⟨sg.toArray⟩ : ByteArray) ++ ⟨#[48, 120, 48, 112, 48]⟩ = ⟨(sg ++ [48, 120, 48, 112, 48]).toArray⟩ := ba_app1 sg [48, 120, 48, 112, 48]
      subst hk1
      clear hR hkr hk0 HK
      go_wp2
      go_ret
      exact ⟨by rw [← HRR.out, ← hap]; rfl, HB3.out⟩
    · rw [if_neg hk1] at hR
      have q1 : (kd == 1) = false := by simpa using hk1
      by_cases hk3 : kd = 3
      · rw [if_pos hk3] at hR
        have HRR := Lib.hid hR
        have hap : (⟨sg.toArray⟩ : ByteArray) ++ ⟨#[105, 110, 102]⟩ = ⟨(sg ++ [105, 110, 102]).toArray⟩ := ba_app1 sg [105, 110, 102]
        subst hk3
        clear hR hkr hk0 HK q1 hk1
        go_wp2
        go_ret
        exact ⟨by rw [← HRR.out, ← hap]; rfl, HB3.out⟩
      · rw [if_neg hk3] at hR
        have q3 : (kd == 3) = false := by simpa using hk3
        by_cases hk4 : kd = 4
        · have hpi : 9218868437227405312 < p := by
            have hkp := HKP.out
            rw [hk4] at hkp
            by_cases z : p = 0
            · rw [if_pos z] at hkp; cases hkp
            · rw [if_neg z] at hkp
              by_cases g : 9218868437227405312 < p
              · exact g
              · rw [if_neg g] at hkp
                by_cases y : p = 9218868437227405312
                · rw [if_pos y] at hkp; cases hkp
                · rw [if_neg y] at hkp; cases hkp
          subst hk4
          by_cases hcn : (p : Int) = 9221120237041090560
          · rw [if_pos hcn] at hR
            have HRR := Lib.hid hR
            have hap : (⟨sg.toArray⟩ : ByteArray) ++ ⟨#[110, 97, 110]⟩ = ⟨(sg ++ [110, 97, 110]).toArray⟩ := ba_app1 sg [110, 97, 110]
            have q4 : ((p : Int) == 9221120237041090560) = true := by simpa using hcn
            clear hR hkr hk0 HK hk1 hk3 hcn q1 q3 hpi
            go_wp2_with (first | (go_at_call 44; refine (frac_64 _).mono ?_; rintro e wf ⟨rfl, rfl⟩) | (go_at_call 45; refine (HCA.out _).mono ?_; rintro e w4 ⟨rfl, rfl⟩))
            go_ret
            exact ⟨by rw [← HRR.out, ← hap]; rfl, HB3.out⟩
          · rw [if_neg hcn, if_pos rfl] at hR
            have q4 : ((p : Int) == 9221120237041090560) = false := by simpa using hcn
            have hFI2 := HPS.out
            have hn : (IntKind.u64.wrap ((p : Int) - 9218868437227405312)).toNat = F := by rw [IntKind.wrap_u64]; omega
            rw [hn] at hR
            have HRR := Lib.hid hR
            have hFl : F < 18446744073709551616 := by omega
            have hhl := hexT_len 16 F (by rw [p16]; exact hFl) (by omega)
            have HFU := Lib.hid (fun w => refHex_c F hFl w)
            obtain ⟨X, hX⟩ : ∃ X, hexT F = X := ⟨_, rfl⟩
            rw [hX] at HFU HRR hhl
            have hXs : (⟨X.toArray⟩ : ByteArray).size = X.length := size_arr X
            have hap : (⟨sg.toArray⟩ : ByteArray) ++ ⟨#[110, 97, 110, 58, 48, 120]⟩ = ⟨(sg ++ [110, 97, 110, 58, 48, 120]).toArray⟩ := ba_app1 sg [110, 97, 110, 58, 48, 120]
            have hap2 : (⟨(sg ++ [110, 97, 110, 58, 48, 120]).toArray⟩ : ByteArray) ++ ⟨X.toArray⟩ = ⟨(sg ++ [110, 97, 110, 58, 48, 120] ++ X).toArray⟩ := ba_app1 _ _
            have hps : (⟨(sg ++ [110, 97, 110, 58, 48, 120]).toArray⟩ : ByteArray).size = sg.length + 6 := by rw [size_arr]; simp
            clear hR hkr hk0 HK hk1 hk3 hcn hX hFl q1 q3 hn hpi hFI2
            go_wp2_with (first | (go_at_call 44; refine (frac_64 _).mono ?_; rintro e wf ⟨rfl, rfl⟩) | (go_at_call 45; refine (HCA.out _).mono ?_; rintro e w4 ⟨rfl, rfl⟩) | (go_at_call 46; ((with_reducible refine (HFU.out _).mono ?_)); rintro e w5 ⟨rfl, hd⟩; have HB5 := Lib.hid (below_step HB3.out hd.below); clear hd))
            go_ret
            have e : sg ++ 110 :: 97 :: 110 :: 58 :: 48 :: 120 :: X = R := by rw [← HRR.out]; simp
            exact ⟨by rw [← e]; rfl, HB5.out⟩
        · have hk2 : kd = 2 := by omega
          have hpi : p < 9218868437227405312 := by
            have hkp := HKP.out
            rw [hk2] at hkp
            by_cases z : p = 0
            · rw [if_pos z] at hkp; cases hkp
            · rw [if_neg z] at hkp
              by_cases g : 9218868437227405312 < p
              · rw [if_pos g] at hkp; cases hkp
              · rw [if_neg g] at hkp
                by_cases y : p = 9218868437227405312
                · rw [if_pos y] at hkp; cases hkp
                · omega
          rw [if_neg (by omega), if_neg hk4] at hR
          have q5 : (kd == 4) = false := by simpa using hk4
          obtain ⟨M, E, hM, hM0, hMl, hE1, hE2⟩ := HP2.out hk2
          have HPA := Lib.hid (fun w => HPT.out hk2 M E hM hpi w)
          rw [hM] at hR
          simp only [Int.toNat_natCast] at hR
          obtain ⟨sr, hsr⟩ : ∃ sr, strip M E = sr := ⟨_, rfl⟩
          rw [hsr] at hR
          have HRR := Lib.hid hR
          have HSR := Lib.hid hsr
          clear hR hkr hk0 HK hk1 hk3 hk4 hk2 hM hsr hpi
          go_upto_block 2 with (first | (go_at_call 44; refine (frac_64 _).mono ?_; rintro e wf ⟨rfl, rfl⟩) | (go_at_call 47; refine (HPA.out _).mono ?_; rintro x w4 ⟨rfl, hb⟩; have HB6 := Lib.hid (below_step HB3.out hb); clear hb))
          go_loopw [9, 10] (SfR w M E) (fun v9 _ _ => numV v9)
          case atStart =>
            exact ⟨M, 0, rfl, by simp, hM0, by simp, by simp, HB6.out⟩
          case round =>
            obtain ⟨m, j, rfl, rfl, hm0, hMm, hst, hb7⟩ := hrel.out
            clear hrel
            rename World => W
            have hj := pow_bound m j hm0 (by rw [← hMm]; exact hMl)
            have hml : m < 18446744073709551616 := by
              have : m * 1 ≤ m * 2 ^ j := Nat.mul_le_mul_left _ (Nat.one_le_two_pow)
              omega
            have HB7 := Lib.hid hb7
            have HMM := Lib.hid hMm
            have HST := Lib.hid hst
            clear hb7 hMm hst
            by_cases hev : m % 2 = 0
            · have hevI : ((m : Int) % 2 == 0) = true := by simp only [beq_iff_eq]; omega
              go_wp2
              go_roundw
              case rel =>
                refine ⟨m / 2, j + 1, by push_cast; rfl, by push_cast; congr 1; omega, by omega, ?_, ?_, HB7.out⟩
                · rw [HMM.out, Nat.pow_succ, Nat.mul_comm (2 ^ j), ← Nat.mul_assoc]
                  congr 1
                  omega
                · rw [HST.out, strip_even m _ hev hm0]
                  congr 1
                  push_cast
                  omega
              case measure =>
                simp only [numV]
                omega
            · have hod : strip M E = (m, E + (j : Int)) := by rw [HST.out, strip_odd m _ (by omega)]
              have hsr := HSR.out
              rw [hod] at hsr
              have hR := HRR.out
              rw [← hsr] at hR
              simp only at hR
              have hhl := hexT_len 16 m (by rw [p16]; exact hml) (by omega)
              have HFU := Lib.hid (fun w => refHex_c m hml w)
              obtain ⟨e, he⟩ : ∃ e, E + (j : Int) = e := ⟨_, rfl⟩
              have her : -1074 ≤ e ∧ e ≤ 2200 := by omega
              rw [he] at hR
              have HIT := Lib.hid (fun w => refNumber_c e (by omega) w)
              have hil := Lib.itoa_length_le e (by omega) (by omega)
              obtain ⟨X, hX⟩ : ∃ X, hexT m = X := ⟨_, rfl⟩
              rw [hX] at HFU hR hhl
              obtain ⟨Y, hY⟩ : ∃ Y, Lib.itoa e = Y := ⟨_, rfl⟩
              rw [hY] at HIT hR hil
              have HR := Lib.hid hR
              have hXs : (⟨X.toArray⟩ : ByteArray).size = X.length := size_arr X
              have hYs : (⟨Y.toArray⟩ : ByteArray).size = Y.length := size_arr Y
              have a1 : (⟨sg.toArray⟩ : ByteArray) ++ ⟨#[48, 120]⟩ = ⟨(sg ++ [48, 120]).toArray⟩ := ba_app1 sg [48, 120]
              have a2 : (⟨(sg ++ [48, 120]).toArray⟩ : ByteArray) ++ ⟨X.toArray⟩ = ⟨(sg ++ [48, 120] ++ X).toArray⟩ := ba_app1 _ _
              have a3 : (⟨(sg ++ [48, 120] ++ X).toArray⟩ : ByteArray) ++ ⟨#[112]⟩ = ⟨(sg ++ [48, 120] ++ X ++ [112]).toArray⟩ := ba_app1 _ _
              have a4 : (⟨(sg ++ [48, 120] ++ X ++ [112]).toArray⟩ : ByteArray) ++ ⟨Y.toArray⟩ = ⟨(sg ++ [48, 120] ++ X ++ [112] ++ Y).toArray⟩ := ba_app1 _ _
              have s1 : (⟨(sg ++ [48, 120]).toArray⟩ : ByteArray).size = sg.length + 2 := by rw [size_arr]; simp
              have s2 : (⟨(sg ++ [48, 120] ++ X).toArray⟩ : ByteArray).size = sg.length + 2 + X.length := by rw [size_arr]; simp; omega
              have s3 : (⟨(sg ++ [48, 120] ++ X ++ [112]).toArray⟩ : ByteArray).size = sg.length + 2 + X.length + 1 := by rw [size_arr]; simp; omega
              have hodI : ((m : Int) % 2 == 0) = false := by simp only [beq_eq_false_iff_ne, ne_eq]; omega
              clear hsr hod hX hY hml hM0 hMl hE1 hE2 hm0 hj hR HRR hev
              go_wp2_with (first | (go_at_call 46; ((with_reducible refine (HFU.out _).mono ?_)); rintro e w8 ⟨rfl, hd⟩; have HB8 := Lib.hid (below_step HB7.out hd.below); clear hd) | (go_at_call 41; ((with_reducible refine (HIT.out _).mono ?_)); rintro e w9 ⟨rfl, hd⟩; have HB9 := Lib.hid (below_step HB8.out hd.below); clear hd))
              go_ret
              have e : sg ++ 48 :: 120 :: X ++ [112] ++ Y = R := by rw [← HR.out]; simp
              have z1 := ba_app1 (sg ++ 48 :: 120 :: X) [112]
              have z2 := ba_app1 (sg ++ 48 :: 120 :: X ++ [112]) Y
              rw [e] at z2
              exact ⟨congrArg (fun b => Ending.returned (.string b)) ((congrArg (· ++ (⟨Y.toArray⟩ : ByteArray)) z1).trans z2), HB9.out⟩
set_option maxRecDepth 1000000 in
set_option maxHeartbeats 4000000 in
theorem refShowFloat_none (bits : Int) (h32 : bits ≠ 32) (h64 : bits ≠ 64) (v : Nat) (w : World) :
    Calls Tryz.prog 16 #[.int .i64 bits, .int .u64 (v : Int)] w fun e w' => e = .returned (.string ⟨(showF bits v).toArray⟩) ∧ Below w.heap.size w w' := by
  have hk : Fl.kindF bits v = 0 := by unfold Fl.kindF; rw [if_pos ⟨h32, h64⟩]
  have hS : showF bits v = [] := by unfold showF; simp only [hk, if_true]
  have HK := Lib.hid (Ref.kind_wrong bits (v : Int) w h32 h64)
  rw [hS]
  clear hS hk h32 h64
  go_enter Tryz.func16, Tryz.ntmps16
  go_wp2_with (go_at_call 43; refine HK.out.mono ?_; rintro e w1 ⟨rfl, hd⟩; have HB := Lib.hid hd.below; clear hd)
  go_ret
  exact ⟨rfl, HB.out⟩
theorem refShowFloat_c (bits : Int) (v : Nat) (hv : v < 18446744073709551616) (w : World) :
    Calls Tryz.prog 16 #[.int .i64 bits, .int .u64 (v : Int)] w fun e w' => e = .returned (.string ⟨(showF bits v).toArray⟩) ∧ Below w.heap.size w w' := by
  by_cases h32 : bits = 32
  · subst h32; exact refShowFloat_32 v hv w
  · by_cases h64 : bits = 64
    · subst h64; exact refShowFloat_64 v hv w
    · exact refShowFloat_none bits h32 h64 v w
end Go.Proofs.YtjecdciabpjgcaaGreatDoor.Lz
namespace Go.Proofs.YtjecdciabpjgcaaGreatDoor.Lz
set_option linter.unusedVariables false
set_option linter.unusedSimpArgs false
open Go.RowKit Go.Proofs.YtjecdciabpjgcaaGreatDoorW.PrintWords Go.Proofs.YtjecdciabpjgcaaGreatDoor.Lx Go.Proofs.YtjecdciabpjgcaaGreatDoor.PLz
theorem strip_pow (m : Nat) (hm : m % 2 = 1) : ∀ (j : Nat) (e : Int), strip (m * 2 ^ j) e = (m, e + (j : Int))
  | 0, e => by rw [Nat.pow_zero, Nat.mul_one, strip_odd m e hm]; simp
  | j + 1, e => by
    have hp : 0 < m * 2 ^ j := Nat.mul_pos (by omega) (Nat.two_pow_pos j)
    have e1 : m * 2 ^ (j + 1) = 2 * (m * 2 ^ j) := by rw [Nat.pow_succ, ← Nat.mul_assoc, Nat.mul_comm]
    rw [e1, strip_even _ e (by omega) (by omega), Nat.mul_div_cancel_left _ (by decide), strip_pow m hm j]
    congr 1
    omega
theorem ex_int1 : intF 8 [45, 49, 50, 56] = (128, true) := by decide +kernel
theorem ex_int2 : intF 8 [48, 120, 102, 102] = (255, true) := by decide +kernel
theorem ex_int3 : intF 8 [50, 53, 54] = (0, false) := by decide +kernel
theorem ex_float1 : floatF 32 [48, 120, 49, 46, 56, 112, 49] = (1077936128, true) := by decide +kernel
theorem ex_float2 : floatF 32 [49, 101, 51, 57] = (0, false) := by decide +kernel
theorem ex_show1 : showI 8 128 = [45, 49, 50, 56] := by
  have h1 : rightB 8 := by unfold rightB; omega
  have h2 : sgnB (8 : Int).toNat 128 = -128 := by decide
  unfold showI
  rw [if_pos h1, h2]
  unfold Lib.itoa
  rw [if_pos (by decide)]
  have e : (-128 : Int).natAbs = 128 := rfl
  rw [e, Lib.decDigits, dif_neg (by decide), Lib.decDigits, dif_neg (by decide), Lib.decDigits, dif_pos (by decide)]
  rfl
theorem ex_show2 : showF 64 4609434218613702656 = [48, 120, 51, 112, 45, 49] := by
  have hk : Fl.kindF 64 ((4609434218613702656 : Nat) : Int) = 2 := by decide +kernel
  have hs : signT (64 : Int).toNat 4609434218613702656 = [] := by decide +kernel
  have hp : plainV (64 : Int).toNat 4609434218613702656 = 4609434218613702656 := by decide +kernel
  have hq : Pure.partsF 64 4609434218613702656 = (false, ((3 * 2 ^ 51 : Nat) : Int), -52, 0) := by decide +kernel
  have hc : ¬ ((4609434218613702656 : Nat) : Int) = Fl.canon 64 := by decide
  unfold showF
  simp only [hk, hs, hp, hq]
  rw [if_neg (by decide), if_neg (by decide), if_neg (by decide), if_neg hc, if_neg (by decide), Int.toNat_natCast, strip_pow 3 (by decide) 51]
  simp only [List.nil_append]
  rw [hexT_lt 3 (by decide), show (-52 : Int) + ((51 : Nat) : Int) = -1 by omega]
  unfold Lib.itoa
  rw [if_pos (by decide), show (-1 : Int).natAbs = 1 from rfl, Lib.decDigits, dif_pos (by decide)]
  rfl
end Go.Proofs.YtjecdciabpjgcaaGreatDoor.Lz
namespace Go.Proofs.YtjecdciabpjgcaaGreatDoor.Lz
set_option linter.unusedVariables false
set_option linter.unusedSimpArgs false
open Go.RowKit Go.Proofs.YtjecdciabpjgcaaGreatDoorW.PrintWords Go.Proofs.YtjecdciabpjgcaaGreatDoor.Lx Go.Proofs.YtjecdciabpjgcaaGreatDoor.PLz
theorem int_at (bits : Int) (l : List UInt8) (hl : l.length ≤ 1000000) (r : Nat × Bool) (h : intF bits l = r) (w : World) (hm : ML w) :
    Calls Tryz.prog 10 #[.int .i64 bits, .string ⟨l.toArray⟩] w fun e w' => e = .returned (.tuple #[.int .u64 (r.1 : Int), .bool r.2]) ∧ Below w.heap.size w w' :=
  (int_c ⟨l.toArray⟩ bits (by rw [size_arr]; omega) w hm r (by rw [arr_self]; exact h)).mono fun e w' hq => hq.out
theorem float_at (bits : Int) (l : List UInt8) (hl : l.length ≤ 900000) (r : Int × Bool) (h : floatF bits l = r) (w : World) (hm : ML w) :
    Calls Tryz.prog 12 #[.int .i64 bits, .string ⟨l.toArray⟩] w fun e w' => e = .returned (.tuple #[.int .u64 r.1, .bool r.2]) ∧ Below w.heap.size w w' :=
  (float_c bits ⟨l.toArray⟩ (by rw [size_arr]; omega) w hm).mono fun e w' hq => by
    have := hq.out
    rw [arr_self, h] at this
    exact this
structure AwQ (w : World) (e : Ending) (w' : World) : Prop where mk ::
  (out : e = .returned (.bool true) ∧ Below w.heap.size w w')
set_option maxRecDepth 1000000 in
set_option maxHeartbeats 4000000 in
theorem awake_c (w : World) (ht : TW w) : Calls Tryz.prog 9 #[] w (AwQ w) := by
  have HT := Lib.hid ht
  have H1 := Lib.hid (fun w hm => int_at 8 _ (by decide) _ ex_int1 w hm)
  have H2 := Lib.hid (fun w hm => int_at 8 _ (by decide) _ ex_int2 w hm)
  have H3 := Lib.hid (fun w hm => int_at 8 _ (by decide) _ ex_int3 w hm)
  have H4 := Lib.hid (fun w hm => float_at 32 _ (by decide) _ ex_float1 w hm)
  have H5 := Lib.hid (fun w hm => float_at 32 _ (by decide) _ ex_float2 w hm)
  have H6 := Lib.hid (fun w ht => showInt_c 8 (by decide) 128 w ht)
  have H7 := Lib.hid (fun w ht => showFloat_c 64 4609434218613702656 (by decide) w ht)
  rw [ex_show1] at H6
  rw [ex_show2] at H7
  clear ht
  go_enter Tryz.func9, Tryz.ntmps9
  go_wp2_with (first | (go_at_call 10; ((with_reducible refine (H1.out _ HT.out.ml).mono ?_)); rintro e w1 ⟨rfl, hb⟩; have HB1 := Lib.hid hb; clear hb) | (go_at_call 10; ((with_reducible refine (H2.out _ (HT.out.ml.below HB1.out)).mono ?_)); rintro e w2 ⟨rfl, hb⟩; have HB2 := Lib.hid (below_step HB1.out hb); clear hb) | (go_at_call 10; ((with_reducible refine (H3.out _ (HT.out.ml.below HB2.out)).mono ?_)); rintro e w3 ⟨rfl, hb⟩; have HB3 := Lib.hid (below_step HB2.out hb); clear hb) | (go_at_call 12; ((with_reducible refine (H4.out _ (HT.out.ml.below HB3.out)).mono ?_)); rintro e w4 ⟨rfl, hb⟩; have HB4 := Lib.hid (below_step HB3.out hb); clear hb) | (go_at_call 12; ((with_reducible refine (H5.out _ (HT.out.ml.below HB4.out)).mono ?_)); rintro e w5 ⟨rfl, hb⟩; have HB5 := Lib.hid (below_step HB4.out hb); clear hb) | (go_at_call 13; refine (H6.out _ (HT.out.below HB5.out)).mono ?_; rintro e w6 ⟨rfl, hb⟩; have HB6 := Lib.hid (below_step HB5.out hb); clear hb) | (go_at_call 14; refine (H7.out _ (HT.out.below HB6.out)).mono ?_; rintro e w7 ⟨rfl, hb⟩; have HB7 := Lib.hid (below_step HB6.out hb); clear hb))
  go_ret
  exact ⟨rfl, HB7.out⟩
end Go.Proofs.YtjecdciabpjgcaaGreatDoor.Lz
namespace Go.Proofs.YtjecdciabpjgcaaGreatDoor.Lx
open Go Go.RowKit
set_option linter.unusedVariables false
set_option maxRecDepth 100000 in
theorem ml_of {w : World} (h : w.ShapedOpen Tryz.prog) : ML w :=
  cell_of_shapedOpen_int (g := 1) (t := 3) (zero := #[.int .i64 0]) (k := .i64) h (of_decide_eq_true (by kernel_rfl)) (by kernel_rfl) rfl (by kernel_rfl) (by kernel_rfl) Tryz.underlying3
section
variable {H : Type} {enc : TypeId × Value → H}
/-- As the library's returnsInHanded_of_change_and, the world's shape handed on. -/
theorem returnsInHanded_shaped {a : Assume} {C : Checked} {os : Os} {f : FuncId} {fn : Func} {s : ChangeSpec} {conds : List PathCond} {apart fresh handsOn again : Bool} {X : World → Array Value → Prop}
    (hX : ∀ (w w' : World) (args : Array Value), w.heap = w'.heap → X w args → X w' args)
    (own : ownKnob C.prog.godebug = none) (started : os.Started) (noInit : C.prog.inits.idxOf? f = none) (hfn : C.prog.funcs[f]? = some fn)
    (witness : ∃ (w : World) (tape : Tape) (i : Input), w.os = os ∧ (w.forCall tape i).Shaped C.prog ∧ i.vars = [] ∧ Input.okWide C.prog (w.forCall tape i) .any w.heap.size f i ∧
      ((s.pre enc C.prog fn conds apart (w.forCall tape i).memory i.args ∧ X (w.forCall tape i).memory i.args) ∧ sizedMet enc C.prog fn (OpenSpec.ofChange s) apart (w.forCall tape i).memory i.args) ∧ a.holds C.prog (lone (Frame.enter C.prog f i.args .normal) [] (w.forCall tape i)))
    (contract : ∀ (W : World) (base : Nat) (args : Array Value) (ds gs : List (DataW H)) (before : List MemPlace),
      (∀ (j : Nat) t v, fn.params[j]? = some t → args[j]? = some v → Value.okWide C.prog W .any base t v) →
      DataW.Whole enc C.prog fn.params.toList s.vars apart W args.toList ds gs before →
      conds.all (PathCond.test C.prog ⟨fn.params.toList, ds, s.plain.varTypes C.prog, gs⟩) = true →
      (DataW.weightsEach C.prog (fn.params.toList ++ s.plain.varTypes C.prog) (ds ++ gs)).all (· ≤ reachBytes) = true → X W args → W.ShapedOpen C.prog →
      a.holds C.prog (lone (Frame.enter C.prog f args .normal) [] W) →
      Calls C.prog f args W fun e W' => ∃ v, e = .returned v ∧ s.post enc C.prog fn apart fresh handsOn again W args v W') :
    ReturnsInHanded a C os f .any (fun w args => (s.pre enc C.prog fn conds apart w args ∧ X w args) ∧ sizedMet enc C.prog fn (OpenSpec.ofChange s) apart w args) (s.post enc C.prog fn apart fresh handsOn again) := by
  refine returnsInHanded_of_calls own started noInit witness ?_
  intro w tape i _ hsh _ hok hpre hholds
  obtain ⟨_, _, _, fn', hfn', _, _, _, _, hval⟩ := hok
  have e : fn' = fn := Option.some.inj (hfn'.symm.trans hfn)
  subst e
  obtain ⟨⟨⟨ds, gs, before, hw, hc⟩, hx⟩, hz⟩ := hpre
  have hw' := DataW.Whole.of_heap (w' := w.forCall tape i) (by rfl) hw
  refine (contract (w.forCall tape i) w.heap.size i.args ds gs before hval hw' hc (hz.weights hw) (hX _ _ _ (by rfl) hx) hsh hholds).mono fun e W' ⟨v, he, hp⟩ => ?_
  subst he
  exact ChangeSpec.post_blind hp
end
end Go.Proofs.YtjecdciabpjgcaaGreatDoor.Lx
namespace Go.Proofs.YtjecdciabpjgcaaGreatDoor.Lz
set_option linter.unusedVariables false
open Go.ChangeShapes Go.WideShapes Go.ChangeAt Go.RowKit Go.Proofs.YtjecdciabpjgcaaGreatDoor.Lx
theorem tab_vars {P : Program} {W : World} {name : String} {k : IntKind} {zs : List Int} {rest : List (String × DataW Unit)} {g : Nat} {t e : TypeId} {n : Nat} {ps : List MemPlace}
    (hg : P.globalNamed name = some g) (hty : (P.globals[g]?).map (·.type) = some t) (ht : P.underlying t = some (.array n e)) (he : P.underlying e = some (.int k)) (hce : P.cellsOf e = 1) (hct : P.cellsOf t = n)
    (h : DataW.LaidVars P W ((name, Lib.tabData k zs) :: rest) ps) : Lib.TabIs P W name k zs ∧ ∃ q, DataW.LaidVars P W rest q := by
  obtain ⟨g', t', cs, fuel, p, q, hg', ht', hvar, hd, hr, _⟩ := h
  obtain rfl := Option.some.inj (hg.symm.trans hg')
  obtain rfl := Option.some.inj (hty.symm.trans ht')
  refine ⟨?_, q, hr⟩
  have := Lib.cells_of_tab ht he hce hct hd
  unfold Lib.TabIs
  rw [hvar, ← this]
theorem tw_of {W : World} (hsh : W.ShapedOpen Tryz.prog) (h : laidMetH Tryz.prog Rows.literalSignsRow.laid W) : TW W := by
  rw [MakeChecks.laidMetH_plain _ _ _ (by kernel_rfl)] at h
  obtain ⟨ps, hv, _⟩ := h
  obtain ⟨_, _, _, _, _, q1, _, _, _, _, hv1, _⟩ := hv
  have e64 : (Rows.laid_math_bits_deBruijn64tab : DataW Unit) = Lib.tabData .u8 (Lib.deBruijn64tab.map fun n => Int.ofNat n) := by kernel_rfl
  have e10 : (Rows.laid_internal_strconv_uint64pow10 : DataW Unit) = Lib.tabData .u64 Lib.pow10Tab := by kernel_rfl
  rw [e64] at hv1
  obtain ⟨t1, q2, hv2⟩ := tab_vars (g := 6) (t := 197) (e := 5) (n := 64) (by kernel_rfl) (by kernel_rfl) Tryz.underlying197 Tryz.underlying5 (by kernel_rfl) (by kernel_rfl) hv1
  rw [e10] at hv2
  obtain ⟨t2, _⟩ := tab_vars (g := 0) (t := 167) (e := 23) (n := 20) (by kernel_rfl) (by kernel_rfl) Tryz.underlying167 Tryz.underlying23 (by kernel_rfl) (by kernel_rfl) hv2
  refine ⟨ml_of hsh, fun j hj => ?_, t2⟩
  have := t1.cell (g := 6) (by kernel_rfl) j (by rw [List.length_map]; exact hj)
  rw [this]
  congr 2
  rw [List.getD_eq_getElem?_getD, List.getElem?_map, List.getD_eq_getElem?_getD]
  cases Lib.deBruijn64tab[j]? <;> rfl
end Go.Proofs.YtjecdciabpjgcaaGreatDoor.Lz
namespace Go.Proofs.YtjecdciabpjgcaaGreatDoor.Lz
set_option linter.unusedVariables false
set_option linter.unusedSimpArgs false
open Go.RowKit Go.Proofs.YtjecdciabpjgcaaGreatDoorW.PrintWords Go.Proofs.YtjecdciabpjgcaaGreatDoor.Lx Go.Proofs.YtjecdciabpjgcaaGreatDoor.PLz
theorem showI_ne (bits : Int) (v : Nat) (h : rightB bits) : showI bits v ≠ [] := by
  unfold showI
  rw [if_pos h]
  unfold Lib.itoa
  split
  · simp
  · exact decT_ne _
theorem showF_nil (bits : Int) (h : ¬ (bits = 32 ∨ bits = 64)) (v : Nat) : showF bits v = [] := by
  have hk : Fl.kindF bits v = 0 := by unfold Fl.kindF; rw [if_pos (by omega)]
  unfold showF
  simp only [hk, if_true]
theorem mask_c (k v : Nat) (hk : k ≤ 64) (hv : v < 18446744073709551616) (m : Int) (hm : m = ((2 ^ k - 1 : Nat) : Int)) : Go.bits .and .u64 (v : Int) m = ((v % 2 ^ k : Nat) : Int) := by
  have hp : 1 ≤ 2 ^ k := Nat.one_le_two_pow
  have hp2 : 2 ^ k ≤ 2 ^ 64 := Nat.pow_le_pow_right (by decide) hk
  have e64 : (2 : Nat) ^ 64 = 18446744073709551616 := by decide
  rw [hm, bits_and_u64_nat v _ hv (by omega), Nat.and_two_pow_sub_one_eq_mod]
theorem showI_len (bits : Int) (v : Nat) : (showI bits v).length ≤ 21 := by
  unfold showI
  split
  · rename_i h
    have := sgn_range bits.toNat v (by unfold rightB at h; omega)
    exact Lib.itoa_length_le _ this.1 this.2
  · simp
theorem showF_len (bits : Int) (hb : bits = 32 ∨ bits = 64) (v : Nat) (hv : v < 18446744073709551616) : (showF bits v).length ≤ 900 := by
  have hsg : (signT bits.toNat v).length ≤ 1 := by unfold signT; split <;> simp
  unfold showF
  simp only
  split
  · simp
  · split
    · simp; omega
    · split
      · simp; omega
      · split
        · simp; omega
        · split
          · have hw : (IntKind.u64.wrap ((plainV bits.toNat v : Int) - infF bits)).toNat < 18446744073709551616 := by rw [IntKind.wrap_u64]; omega
            have := hexT_len 16 _ (by rw [p16]; exact hw) (by omega)
            simp only [List.length_append, List.length_cons, List.length_nil]
            omega
          · rename_i h0 h1 h3 hc h4
            have hkr := kind_rg bits hb v
            have hk2 : Fl.kindF bits (v : Int) = 2 := by omega
            obtain ⟨M, E, hM, hM0, hMl, hE1, hE2⟩ := parts_two bits hb v hv hk2
            rw [hM]
            simp only [Int.toNat_natCast]
            obtain ⟨j, s1, s2, s3⟩ := strip_spec M E hM0
            have hj := pow_bound (strip M E).1 j s3 (by rw [← s1]; exact hMl)
            have hml : (strip M E).1 < 18446744073709551616 := by
              have : (strip M E).1 * 1 ≤ (strip M E).1 * 2 ^ j := Nat.mul_le_mul_left _ (Nat.one_le_two_pow)
              omega
            have a1 := hexT_len 16 _ (by rw [p16]; exact hml) (by omega)
            have a2 := Lib.itoa_length_le (strip M E).2 (by omega) (by omega)
            simp only [List.length_append, List.length_cons, List.length_nil]
            omega
set_option maxRecDepth 1000000 in
set_option maxHeartbeats 4000000 in
theorem shows_bad (bits : Int) (hb : -9223372036854775808 ≤ bits ∧ bits ≤ 9223372036854775807) (hr : ¬ rightB bits) (v : Nat) (hv : v < 18446744073709551616) (w : World) (ht : TW w) :
    Calls Tryz.prog 5 #[.int .i64 bits, .int .u64 (v : Int)] w fun e w' => e = .returned (.bool true) ∧ Below w.heap.size w w' := by
  have HT := Lib.hid ht
  have H1 := Lib.hid (fun w ht => showInt_c bits hb v w ht)
  have H2 := Lib.hid (fun w ht => showFloat_c bits v hv w ht)
  have H3 := Lib.hid (fun w => refShowInt_c bits v hv w)
  have H4 := Lib.hid (fun w => refShowFloat_c bits v hv w)
  have hX : showI bits v = [] := if_neg hr
  have hY : showF bits v = [] := showF_nil bits (by unfold rightB at hr; omega) v
  rw [hX] at H1 H3
  rw [hY] at H2 H4
  have e0 : ((⟨([] : List UInt8).toArray⟩ : ByteArray).toList == []) = true := str_ne []
  have e1 : (⟨([] : List UInt8).toArray⟩ : ByteArray).toList.isEmpty = true := empty_l []
  clear ht hv hr hX hY hb
  go_enter Tryz.func5, Tryz.ntmps5
  go_wp2_with (first | (go_at_call 9; refine (awake_c _ HT.out).mono ?_; intro e w0 hq; obtain ⟨he, hb⟩ := hq.out; subst he; have HB0 := Lib.hid hb; clear hb hq) | (go_at_call 13; ((with_reducible refine (H1.out _ (HT.out.below HB0.out)).mono ?_)); rintro e w1 ⟨rfl, hb⟩; have HB1 := Lib.hid (below_step HB0.out hb); clear hb) | (go_at_call 14; ((with_reducible refine (H2.out _ (HT.out.below HB1.out)).mono ?_)); rintro e w2 ⟨rfl, hb⟩; have HB2 := Lib.hid (below_step HB1.out hb); clear hb) | (go_at_call 15; ((with_reducible refine (H3.out _).mono ?_)); rintro e w3 ⟨rfl, hb⟩; have HB3 := Lib.hid (below_step HB2.out hb); clear hb) | (go_at_call 16; ((with_reducible refine (H4.out _).mono ?_)); rintro e w4 ⟨rfl, hb⟩; have HB4 := Lib.hid (below_step HB3.out hb); clear hb))
  go_ret
  exact ⟨rfl, HB4.out⟩
set_option maxRecDepth 1000000 in
set_option maxHeartbeats 4000000 in
theorem shows_8 (v : Nat) (hv : v < 18446744073709551616) (w : World) (ht : TW w) :
    Calls Tryz.prog 5 #[.int .i64 8, .int .u64 (v : Int)] w fun e w' => e = .returned (.bool true) ∧ Below w.heap.size w w' := by
  have HT := Lib.hid ht
  have H1 := Lib.hid (fun w ht => showInt_c 8 (by decide) v w ht)
  have H2 := Lib.hid (fun w ht => showFloat_c 8 v hv w ht)
  have H3 := Lib.hid (fun w => refShowInt_c 8 v hv w)
  have H4 := Lib.hid (fun w => refShowFloat_c 8 v hv w)
  have hI := int_back 8 v (by decide)
  have hcK : ((8 : Nat) : Int) = 8 := rfl
  rw [hcK] at hI
  have hIl := showI_len 8 v
  have hIn := showI_ne 8 v (by unfold rightB; decide)
  have HM := mask_c 8 v (by decide) hv (255) (by decide)
  have e2 : (2 : Nat) ^ 8 = 256 := by decide
  rw [e2] at HM hI
  have hY : showF 8 v = [] := showF_nil 8 (by decide) v
  rw [hY] at H2 H4
  have f0 : ((⟨([] : List UInt8).toArray⟩ : ByteArray).toList == []) = true := str_ne []
  have f1 : (⟨([] : List UInt8).toArray⟩ : ByteArray).toList.isEmpty = true := empty_l []
  generalize showI 8 v = X at *
  have HI := Lib.hid (fun w hm => int_at 8 X (by omega) _ hI w hm)
  have e0 := str_ne X
  have e1 := empty_l X
  have e3 : X.isEmpty = false := by cases X with | nil => exact absurd rfl hIn | cons a t => rfl
  rw [e3] at e0 e1
  clear ht hv hI hIl hIn hcK e2 hY
  go_enter Tryz.func5, Tryz.ntmps5
  go_wp2_with (first | (go_at_call 9; refine (awake_c _ HT.out).mono ?_; intro e w0 hq; obtain ⟨he, hb⟩ := hq.out; subst he; have HB0 := Lib.hid hb; clear hb hq) | (go_at_call 13; ((with_reducible refine (H1.out _ (HT.out.below HB0.out)).mono ?_)); rintro e w1 ⟨rfl, hb⟩; have HB1 := Lib.hid (below_step HB0.out hb); clear hb) | (go_at_call 14; ((with_reducible refine (H2.out _ (HT.out.below HB1.out)).mono ?_)); rintro e w2 ⟨rfl, hb⟩; have HB2 := Lib.hid (below_step HB1.out hb); clear hb) | (go_at_call 15; ((with_reducible refine (H3.out _).mono ?_)); rintro e w3 ⟨rfl, hb⟩; have HB3 := Lib.hid (below_step HB2.out hb); clear hb) | (go_at_call 16; ((with_reducible refine (H4.out _).mono ?_)); rintro e w4 ⟨rfl, hb⟩; have HB4 := Lib.hid (below_step HB3.out hb); clear hb) | (go_at_call 10; ((with_reducible refine (HI.out _ (HT.out.ml.below HB4.out)).mono ?_)); rintro e w5 ⟨rfl, hb⟩; have HB5 := Lib.hid (below_step HB4.out hb); clear hb))
  go_ret
  exact ⟨rfl, HB5.out⟩
set_option maxRecDepth 1000000 in
set_option maxHeartbeats 4000000 in
theorem shows_16 (v : Nat) (hv : v < 18446744073709551616) (w : World) (ht : TW w) :
    Calls Tryz.prog 5 #[.int .i64 16, .int .u64 (v : Int)] w fun e w' => e = .returned (.bool true) ∧ Below w.heap.size w w' := by
  have HT := Lib.hid ht
  have H1 := Lib.hid (fun w ht => showInt_c 16 (by decide) v w ht)
  have H2 := Lib.hid (fun w ht => showFloat_c 16 v hv w ht)
  have H3 := Lib.hid (fun w => refShowInt_c 16 v hv w)
  have H4 := Lib.hid (fun w => refShowFloat_c 16 v hv w)
  have hI := int_back 16 v (by decide)
  have hcK : ((16 : Nat) : Int) = 16 := rfl
  rw [hcK] at hI
  have hIl := showI_len 16 v
  have hIn := showI_ne 16 v (by unfold rightB; decide)
  have HM := mask_c 16 v (by decide) hv (65535) (by decide)
  have e2 : (2 : Nat) ^ 16 = 65536 := by decide
  rw [e2] at HM hI
  have hY : showF 16 v = [] := showF_nil 16 (by decide) v
  rw [hY] at H2 H4
  have f0 : ((⟨([] : List UInt8).toArray⟩ : ByteArray).toList == []) = true := str_ne []
  have f1 : (⟨([] : List UInt8).toArray⟩ : ByteArray).toList.isEmpty = true := empty_l []
  generalize showI 16 v = X at *
  have HI := Lib.hid (fun w hm => int_at 16 X (by omega) _ hI w hm)
  have e0 := str_ne X
  have e1 := empty_l X
  have e3 : X.isEmpty = false := by cases X with | nil => exact absurd rfl hIn | cons a t => rfl
  rw [e3] at e0 e1
  clear ht hv hI hIl hIn hcK e2 hY
  go_enter Tryz.func5, Tryz.ntmps5
  go_wp2_with (first | (go_at_call 9; refine (awake_c _ HT.out).mono ?_; intro e w0 hq; obtain ⟨he, hb⟩ := hq.out; subst he; have HB0 := Lib.hid hb; clear hb hq) | (go_at_call 13; ((with_reducible refine (H1.out _ (HT.out.below HB0.out)).mono ?_)); rintro e w1 ⟨rfl, hb⟩; have HB1 := Lib.hid (below_step HB0.out hb); clear hb) | (go_at_call 14; ((with_reducible refine (H2.out _ (HT.out.below HB1.out)).mono ?_)); rintro e w2 ⟨rfl, hb⟩; have HB2 := Lib.hid (below_step HB1.out hb); clear hb) | (go_at_call 15; ((with_reducible refine (H3.out _).mono ?_)); rintro e w3 ⟨rfl, hb⟩; have HB3 := Lib.hid (below_step HB2.out hb); clear hb) | (go_at_call 16; ((with_reducible refine (H4.out _).mono ?_)); rintro e w4 ⟨rfl, hb⟩; have HB4 := Lib.hid (below_step HB3.out hb); clear hb) | (go_at_call 10; ((with_reducible refine (HI.out _ (HT.out.ml.below HB4.out)).mono ?_)); rintro e w5 ⟨rfl, hb⟩; have HB5 := Lib.hid (below_step HB4.out hb); clear hb))
  go_ret
  exact ⟨rfl, HB5.out⟩
set_option maxRecDepth 1000000 in
set_option maxHeartbeats 4000000 in
theorem shows_32 (v : Nat) (hv : v < 18446744073709551616) (w : World) (ht : TW w) :
    Calls Tryz.prog 5 #[.int .i64 32, .int .u64 (v : Int)] w fun e w' => e = .returned (.bool true) ∧ Below w.heap.size w w' := by
  have HT := Lib.hid ht
  have H1 := Lib.hid (fun w ht => showInt_c 32 (by decide) v w ht)
  have H2 := Lib.hid (fun w ht => showFloat_c 32 v hv w ht)
  have H3 := Lib.hid (fun w => refShowInt_c 32 v hv w)
  have H4 := Lib.hid (fun w => refShowFloat_c 32 v hv w)
  have hI := int_back 32 v (by decide)
  have hcK : ((32 : Nat) : Int) = 32 := rfl
  rw [hcK] at hI
  have hIl := showI_len 32 v
  have hIn := showI_ne 32 v (by unfold rightB; decide)
  have HM := mask_c 32 v (by decide) hv (4294967295) (by decide)
  have e2 : (2 : Nat) ^ 32 = 4294967296 := by decide
  rw [e2] at HM hI
  have hF := show_back 32 (.inl rfl) v hv
  rw [show (32 : Int).toNat = 32 from rfl, e2] at hF
  have hFl : (showF 32 v).length ≤ 900 := showF_len 32 (.inl rfl) v hv
  have hFn : showF 32 v ≠ [] := by
    intro h
    rw [h] at hF
    have : (floatF 32 []).2 = false := by decide +kernel
    rw [hF] at this
    cases this
  generalize showF 32 v = Y at *
  have HF := Lib.hid (fun w hm => float_at 32 Y (by omega) _ hF w hm)
  have f0 := str_ne Y
  have f1 := empty_l Y
  have f2 : Y.isEmpty = false := by cases Y with | nil => exact absurd rfl hFn | cons a t => rfl
  rw [f2] at f0 f1
  generalize showI 32 v = X at *
  have HI := Lib.hid (fun w hm => int_at 32 X (by omega) _ hI w hm)
  have e0 := str_ne X
  have e1 := empty_l X
  have e3 : X.isEmpty = false := by cases X with | nil => exact absurd rfl hIn | cons a t => rfl
  rw [e3] at e0 e1
  clear ht hv hI hIl hIn hcK e2 hF hFl hFn
  go_enter Tryz.func5, Tryz.ntmps5
  go_wp2_with (first | (go_at_call 9; refine (awake_c _ HT.out).mono ?_; intro e w0 hq; obtain ⟨he, hb⟩ := hq.out; subst he; have HB0 := Lib.hid hb; clear hb hq) | (go_at_call 13; ((with_reducible refine (H1.out _ (HT.out.below HB0.out)).mono ?_)); rintro e w1 ⟨rfl, hb⟩; have HB1 := Lib.hid (below_step HB0.out hb); clear hb) | (go_at_call 14; ((with_reducible refine (H2.out _ (HT.out.below HB1.out)).mono ?_)); rintro e w2 ⟨rfl, hb⟩; have HB2 := Lib.hid (below_step HB1.out hb); clear hb) | (go_at_call 15; ((with_reducible refine (H3.out _).mono ?_)); rintro e w3 ⟨rfl, hb⟩; have HB3 := Lib.hid (below_step HB2.out hb); clear hb) | (go_at_call 16; ((with_reducible refine (H4.out _).mono ?_)); rintro e w4 ⟨rfl, hb⟩; have HB4 := Lib.hid (below_step HB3.out hb); clear hb) | (go_at_call 10; ((with_reducible refine (HI.out _ (HT.out.ml.below HB4.out)).mono ?_)); rintro e w5 ⟨rfl, hb⟩; have HB5 := Lib.hid (below_step HB4.out hb); clear hb) | (go_at_call 12; ((with_reducible refine (HF.out _ (HT.out.ml.below HB5.out)).mono ?_)); rintro e w6 ⟨rfl, hb⟩; have HB6 := Lib.hid (below_step HB5.out hb); clear hb))
  go_ret
  exact ⟨rfl, HB6.out⟩
set_option maxRecDepth 1000000 in
set_option maxHeartbeats 4000000 in
theorem shows_64 (v : Nat) (hv : v < 18446744073709551616) (w : World) (ht : TW w) :
    Calls Tryz.prog 5 #[.int .i64 64, .int .u64 (v : Int)] w fun e w' => e = .returned (.bool true) ∧ Below w.heap.size w w' := by
  have HT := Lib.hid ht
  have H1 := Lib.hid (fun w ht => showInt_c 64 (by decide) v w ht)
  have H2 := Lib.hid (fun w ht => showFloat_c 64 v hv w ht)
  have H3 := Lib.hid (fun w => refShowInt_c 64 v hv w)
  have H4 := Lib.hid (fun w => refShowFloat_c 64 v hv w)
  have hI := int_back 64 v (by decide)
  have hcK : ((64 : Nat) : Int) = 64 := rfl
  rw [hcK] at hI
  have hIl := showI_len 64 v
  have hIn := showI_ne 64 v (by unfold rightB; decide)
  have HM := mask_c 64 v (by decide) hv (18446744073709551615) (by decide)
  have e2 : (2 : Nat) ^ 64 = 18446744073709551616 := by decide
  rw [e2] at HM hI
  have hF := show_back 64 (.inr rfl) v hv
  rw [show (64 : Int).toNat = 64 from rfl, e2] at hF
  have hFl : (showF 64 v).length ≤ 900 := showF_len 64 (.inr rfl) v hv
  have hFn : showF 64 v ≠ [] := by
    intro h
    rw [h] at hF
    have : (floatF 64 []).2 = false := by decide +kernel
    rw [hF] at this
    cases this
  generalize showF 64 v = Y at *
  have HF := Lib.hid (fun w hm => float_at 64 Y (by omega) _ hF w hm)
  have f0 := str_ne Y
  have f1 := empty_l Y
  have f2 : Y.isEmpty = false := by cases Y with | nil => exact absurd rfl hFn | cons a t => rfl
  rw [f2] at f0 f1
  generalize showI 64 v = X at *
  have HI := Lib.hid (fun w hm => int_at 64 X (by omega) _ hI w hm)
  have e0 := str_ne X
  have e1 := empty_l X
  have e3 : X.isEmpty = false := by cases X with | nil => exact absurd rfl hIn | cons a t => rfl
  rw [e3] at e0 e1
  clear ht hv hI hIl hIn hcK e2 hF hFl hFn
  go_enter Tryz.func5, Tryz.ntmps5
  go_wp2_with (first | (go_at_call 9; refine (awake_c _ HT.out).mono ?_; intro e w0 hq; obtain ⟨he, hb⟩ := hq.out; subst he; have HB0 := Lib.hid hb; clear hb hq) | (go_at_call 13; ((with_reducible refine (H1.out _ (HT.out.below HB0.out)).mono ?_)); rintro e w1 ⟨rfl, hb⟩; have HB1 := Lib.hid (below_step HB0.out hb); clear hb) | (go_at_call 14; ((with_reducible refine (H2.out _ (HT.out.below HB1.out)).mono ?_)); rintro e w2 ⟨rfl, hb⟩; have HB2 := Lib.hid (below_step HB1.out hb); clear hb) | (go_at_call 15; ((with_reducible refine (H3.out _).mono ?_)); rintro e w3 ⟨rfl, hb⟩; have HB3 := Lib.hid (below_step HB2.out hb); clear hb) | (go_at_call 16; ((with_reducible refine (H4.out _).mono ?_)); rintro e w4 ⟨rfl, hb⟩; have HB4 := Lib.hid (below_step HB3.out hb); clear hb) | (go_at_call 10; ((with_reducible refine (HI.out _ (HT.out.ml.below HB4.out)).mono ?_)); rintro e w5 ⟨rfl, hb⟩; have HB5 := Lib.hid (below_step HB4.out hb); clear hb) | (go_at_call 12; ((with_reducible refine (HF.out _ (HT.out.ml.below HB5.out)).mono ?_)); rintro e w6 ⟨rfl, hb⟩; have HB6 := Lib.hid (below_step HB5.out hb); clear hb))
  go_ret
  exact ⟨rfl, HB6.out⟩
theorem shows_row (bits v : Int) (w : World) (hb : (Lit.int .i64 bits).wf = true) (hv : (Lit.int .u64 v).wf = true) (ht : TW w) :
    Calls Tryz.prog 5 #[.int .i64 bits, .int .u64 v] w fun e w' => e = .returned (.bool true) ∧ Below w.heap.size w w' := by
  have hbb := bounds_i64 hb
  have hvb := bounds_u64 hv
  obtain ⟨n, rfl⟩ := Int.eq_ofNat_of_zero_le hvb.1
  have hn : n < 18446744073709551616 := by omega
  by_cases hr : rightB bits
  · rcases hr with rfl | rfl | rfl | rfl
    · exact shows_8 n hn w ht
    · exact shows_16 n hn w ht
    · exact shows_32 n hn w ht
    · exact shows_64 n hn w ht
  · exact shows_bad bits hbb hr n hn w ht
end Go.Proofs.YtjecdciabpjgcaaGreatDoor.Lz
