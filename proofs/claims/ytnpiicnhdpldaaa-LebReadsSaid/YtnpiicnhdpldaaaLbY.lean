/-
  The walk of the law LebBack. No condition but that of every string that is read: it takes no more than 2^47 bytes.
-/
import Derived.Test.YtnpiicnhdpldaaaLbX
import Derived.Test.YtnpiicnhdpldaaaLbR
import Derived.Test.YtnpiicnhdpldaaaLbI
namespace Go.Proofs.Ytnpiicnhdpldaaa.Lb
set_option linter.unusedVariables false
set_option linter.unusedSimpArgs false
open Go.RowKit Go.Proofs.YtnpiicnhdpldaaaW.PrintWords Go.Proofs.YtnpiicnhdpldaaaW.PrintMore Go.Proofs.Ytnpiicnhdpldaaa.PLeb Go.Proofs.Ytnpiicnhdpldaaa.Pure
attribute [local go_sem] max2_int min2_int max_two min_two

/-- As many bits as a number needs, so far. -/
def LeastRel (n : Nat) (i : Value) : Prop := ∃ k : Nat, i = .int .i64 k ∧ 1 ≤ k ∧ k ≤ 64 ∧ (k = 1 ∨ 2 ^ (k - 1) ≤ n)
def SignRel (m : Int) (i : Value) : Prop := ∃ k : Nat, i = .int .i64 k ∧ 1 ≤ k ∧ k ≤ 64 ∧ (k = 1 ∨ ¬ (-((2 ^ (k - 2) : Nat) : Int) ≤ m ∧ m < ((2 ^ (k - 2) : Nat) : Int)))

def LeastEnd (n : Nat) (i : Value) : Prop := ∃ k : Nat, i = .int .i64 k ∧ 1 ≤ k ∧ k ≤ 64 ∧ (k = 1 ∨ 2 ^ (k - 1) ≤ n) ∧ n < 2 ^ k
def SignEnd (m : Int) (i : Value) : Prop := ∃ k : Nat, i = .int .i64 k ∧ 1 ≤ k ∧ k ≤ 64 ∧ (k = 1 ∨ ¬ (-((2 ^ (k - 2) : Nat) : Int) ≤ m ∧ m < ((2 ^ (k - 2) : Nat) : Int))) ∧ (-((2 ^ (k - 1) : Nat) : Int) ≤ m ∧ m < ((2 ^ (k - 1) : Nat) : Int))
def UpTo (k : Nat) (i : Value) : Prop := ∃ b : Nat, i = .int .i64 b ∧ k ≤ b ∧ b ≤ 64
theorem upto_eq {x : Int} (h : 0 ≤ x) : Value.int .i64 x = .int .i64 (x.toNat : Int) := by rw [Int.toNat_of_nonneg h]
theorem rvalid_c (s : ByteArray) (hs : s.size ≤ 140737488351232) (w : World) : Calls Try.prog 11 #[.string s] w fun e w' => e = .returned (.bool (validG s s.size 0)) ∧ Below w.heap.size w w' :=
  (bodkinref01_Valid.calls _ s _ w (refValid_f s hs _ (Nat.le_refl _))).mono fun _ _ ⟨h1, h2⟩ => ⟨h1, h2.below⟩

theorem fit64 (m : Int) (h1 : -9223372036854775808 ≤ m) (h2 : m ≤ 9223372036854775807) : -((2 ^ (64 - 1) : Nat) : Int) ≤ m ∧ m < ((2 ^ (64 - 1) : Nat) : Int) := by
  have e : ((2 ^ (64 - 1) : Nat) : Int) = 9223372036854775808 := by decide
  rw [e]; omega
theorem and63 (x : Int) : 0 ≤ Go.bits .and .i64 x 63 ∧ Go.bits .and .i64 x 63 ≤ 63 := by
  unfold Go.bits
  simp only
  rw [BitVec.toNat_and]
  have h7 : (BitVec.ofInt (IntKind.bits .i64) 63).toNat = 63 := by decide
  rw [h7]
  have h := @Nat.and_le_right (BitVec.ofInt (IntKind.bits .i64) x).toNat 63
  generalize (BitVec.ofInt (IntKind.bits .i64) x).toNat &&& 63 = y at *
  have e : IntKind.i64.wrap (y : Int) = (y : Int) := by
    simp [IntKind.wrap, IntKind.signed, IntKind.bits]
    omega
  rw [e]
  omega

set_option maxHeartbeats 4000000 in
set_option maxRecDepth 100000 in
theorem back_law (n : Nat) (m : Int) (s : ByteArray) (more : Int) (w : World) (hn : n < 18446744073709551616) (hm1 : -9223372036854775808 ≤ m) (hm2 : m ≤ 9223372036854775807) (hs : (s.size : Int) ≤ 1000) (hv : validG s s.size 0 = true) :
    Calls Try.prog 8 #[.int .u64 (n : Int), .int .i64 m, .string s, .int .i64 more] w fun e w' => e = .returned (.bool true) ∧ Below w.heap.size w w' := by
  obtain ⟨E1, E12, E, E2, T1, T2, hall⟩ := back_all n m s hn hm1 hm2 (by omega) hv
  have HALL := Lib.hid hall
  have HNN := Lib.hid hn
  have HM := Lib.hid (And.intro hm1 hm2)
  obtain ⟨ha0, ha1⟩ := and63 more
  clear hn hm1 hm2 hall
  go_enter Try.func8, Try.ntmps8
  go_upto_block 0 with (first | (go_at_call 9; refine (awake_c _).mono ?_; rintro e w1 ⟨rfl, hb⟩; have HB := Lib.hid hb; clear hb) | (go_at_call 11; refine (rvalid_c s (by omega) _).mono ?_; rintro e w2 ⟨rfl, hb⟩; have HB2 := Lib.hid (HB.out.trans (hb.mono HB.out.size)); clear hb))
  go_cut [11] (fun v wx => LeastEnd n v ∧ w2 = wx)
  case first =>
    go_wp2
    go_loop [11] (LeastRel n) (fun i => 64 - (intOf i).toNat)
    case atStart => exact ⟨1, rfl, by omega, by omega, .inl rfl⟩
    case round =>
      obtain ⟨k, rfl, h1, h2, h3⟩ := hrel
      have H3 := Lib.hid h3
      clear h3
      by_cases hgo : k < 64 ∧ (((n : Int) / 2 ^ k) != 0) = true
      · obtain ⟨hlt, hne⟩ := hgo
        go_wp2
        go_round
        case rel => exact ⟨k + 1, by go_num, by omega, by omega, .inr (by rw [Nat.add_sub_cancel]; exact (div_ne n k).1 hne)⟩
        case measure => simp [intOf]; omega
      · have HEX : Hid (n < 2 ^ k) := Lib.hid (by
          rcases Nat.lt_or_ge n (2 ^ k) with q | q
          · exact q
          · by_cases c : k < 64
            · exact absurd ⟨c, (div_ne n k).2 q⟩ hgo
            · have : k = 64 := by omega
              subst this
              exact HNN.out)
        have hne : k < 64 → (((n : Int) / 2 ^ k) != 0) = false := fun c => Bool.eq_false_iff.2 (fun q => hgo ⟨c, q⟩)
        clear hgo
        by_cases hlt : k < 64
        all_goals
          (try have hne := hne hlt)
          go_wp2
          go_meet
          exact ⟨⟨k, rfl, h1, h2, H3.out, HEX.out⟩, rfl⟩
  case rest =>
    obtain ⟨⟨k, rfl, h1, h2, h3, h4⟩, rfl⟩ := hcut
    have H3 := Lib.hid h3
    have H4 := Lib.hid h4
    clear h3 h4
    go_upto_block 2 with fail
    go_cut [12] (fun v wx => SignEnd m v ∧ w2 = wx)
    case first =>
      go_wp2
      go_loop [12] (SignRel m) (fun i => 64 - (intOf i).toNat)
      case atStart => exact ⟨1, rfl, by omega, by omega, .inl rfl⟩
      case round =>
        obtain ⟨j, rfl, j1, j2, j3⟩ := hrel
        have J3 := Lib.hid j3
        clear j3
        by_cases hgo2 : j < 64 ∧ ((m / 2 ^ (j - 1) != 0) = true ∧ (m / 2 ^ (j - 1) != -1) = true)
        · obtain ⟨jlt, jn0, jn1⟩ := hgo2
          go_wp2
          go_round
          case rel => exact ⟨j + 1, by go_num, by omega, by omega, .inr (by rw [show j + 1 - 2 = j - 1 by omega]; exact (div_fit m (j - 1)).1 ⟨jn0, jn1⟩)⟩
          case measure => simp [intOf]; omega
        · have HEX2 : Hid (-((2 ^ (j - 1) : Nat) : Int) ≤ m ∧ m < ((2 ^ (j - 1) : Nat) : Int)) := Lib.hid (by
            by_cases c : j < 64
            · exact Classical.byContradiction fun q => hgo2 ⟨c, (div_fit m (j - 1)).2 q⟩
            · have : j = 64 := by omega
              subst this
              exact fit64 m HM.out.1 HM.out.2)
          have hj : j = 64 ∨ (j < 64 ∧ (m / 2 ^ (j - 1) != 0) = false) ∨ (j < 64 ∧ (m / 2 ^ (j - 1) != 0) = true ∧ (m / 2 ^ (j - 1) != -1) = false) := by
            by_cases c : j < 64
            · by_cases c0 : (m / 2 ^ (j - 1) != 0) = true
              · exact .inr (.inr ⟨c, c0, Bool.eq_false_iff.2 fun q => hgo2 ⟨c, c0, q⟩⟩)
              · exact .inr (.inl ⟨c, Bool.eq_false_iff.2 c0⟩)
            · exact .inl (by omega)
          clear hgo2
          rcases hj with rfl | ⟨jlt, jn0⟩ | ⟨jlt, jn0, jn1⟩
          all_goals
            go_wp2
            go_meet
            exact ⟨⟨_, rfl, j1, j2, J3.out, HEX2.out⟩, rfl⟩
    case rest =>
      obtain ⟨⟨j, rfl, j1, j2, j3, j4⟩, rfl⟩ := hcut
      have J3 := Lib.hid j3
      have J4 := Lib.hid j4
      clear j3 j4
      go_upto_region 14 with fail
      go_cut [14] (fun v wx => UpTo k v ∧ w2 = wx)
      case first =>
        go_wp2
        all_goals
          go_meet
          refine ⟨?_, rfl⟩
        · exact ⟨64, rfl, by omega, by omega⟩
        · exact ⟨(k + Go.bits .and .i64 more 63).toNat, upto_eq (by omega), by omega, by omega⟩
      case rest =>
        obtain ⟨⟨b, rfl, b1, b2⟩, rfl⟩ := hcut
        go_upto_region 15 with fail
        go_cut [15] (fun v wx => UpTo j v ∧ w2 = wx)
        case first =>
          go_wp2
          all_goals
            go_meet
            refine ⟨?_, rfl⟩
          · exact ⟨64, rfl, by omega, by omega⟩
          · exact ⟨(j + Go.bits .and .i64 more 63).toNat, upto_eq (by omega), by omega, by omega⟩
        case rest =>
          obtain ⟨⟨d, rfl, d1, d2⟩, rfl⟩ := hcut
          have HK := Lib.hid b1
          have HJ := Lib.hid d1
          have HKB : Hid (n < 2 ^ b) := Lib.hid (Nat.lt_of_lt_of_le H4.out (pw_le b1))
          have HJD : Hid (-((2 ^ (d - 1) : Nat) : Int) ≤ m ∧ m < ((2 ^ (d - 1) : Nat) : Int)) := Lib.hid (by
            have := J4.out
            have q := pw_le (show j - 1 ≤ d - 1 by omega)
            omega)
          go_wp2_with fail
          refine (U_c 20 none 0 [] (n : Int) E1 w2 (ReadsInt.nil _ _) (Nat.le_refl _) HALL.out.u).mono ?_
          intro e w3 hq
          obtain ⟨v1, he, ho, hb⟩ := hq.out
          subst he
          clear hq
          obtain ⟨A1, c1, rfl⟩ := own_slice ho
          have HO1 := Lib.hid ho
          have HB3 : Hid (Below w.heap.size w w3) := Lib.hid (HB2.out.trans (hb.mono HB2.out.size))
          clear ho hb
          go_wp2_with fail
          refine (S_c 20 A1 c1 E1 m E12 w3 (own_reads' HO1.out) (own_cap HO1.out) HALL.out.us).mono ?_
          intro e w4 hq
          obtain ⟨v2, he, ho, hb⟩ := hq.out
          subst he
          clear hq
          obtain ⟨A2, c2, rfl⟩ := own_slice ho
          have HO2 := Lib.hid ho
          have HB4 : Hid (Below w.heap.size w w4) := Lib.hid (HB3.out.trans (hb.mono HB3.out.size))
          clear ho hb
          go_wp2_with fail
          refine (N_c 20 A2 c2 E12 s E w4 (own_reads' HO2.out) (own_cap HO2.out) HALL.out.usn).mono ?_
          intro e w5 hq
          obtain ⟨v3, he, ho, hb⟩ := hq.out
          subst he
          clear hq
          obtain ⟨A3, c3, rfl⟩ := own_slice ho
          have HO3 := Lib.hid ho
          have HB5 : Hid (Below w.heap.size w w5) := Lib.hid (HB4.out.trans (hb.mono HB4.out.size))
          clear ho hb
          go_wp2_with fail
          refine (read_c A3 c3 E w5 (own_reads' HO3.out) (own_cap HO3.out) HALL.out.b3 (by have := HALL.out.l3; omega)).mono ?_
          rintro e w6 ⟨rfl, hq, hb⟩
          obtain ⟨g, hg⟩ : ∃ g, g = w5.heap.size := ⟨_, rfl⟩
          rw [← hg] at hq ⊢
          have HG : Hid (w.heap.size ≤ g) := Lib.hid (by rw [hg]; exact HB5.out.size)
          have HQ6 := Lib.hid hq
          have HB6 : Hid (Below w.heap.size w w6) := Lib.hid (HB5.out.trans (hb.mono HB5.out.size))
          clear hq hb hg HO1 HO2 HO3
          go_wp2_with fail
          refine (u_c g (b : Int) E 0 w6 HQ6.out (.inl rfl)).mono ?_
          intro e w7 hq
          rw [HALL.out.ru b (by omega) b2 HKB.out] at hq
          obtain ⟨he, hq7, ht⟩ : e = .returned (.int .u64 n) ∧ Rdr 55 w7 g T1 0 ∧ Turn w6 w7 g := hq.out
          subst he
          have HQ7 := Lib.hid hq7
          have HB7 := Lib.hid (ht.below HB6.out HG.out)
          clear hq hq7 ht
          go_wp2_with fail
          refine (s_c g (d : Int) T1 0 w7 HQ7.out (.inl rfl)).mono ?_
          intro e w8 hq
          rw [HALL.out.rs d (by omega) d2 HJD.out] at hq
          obtain ⟨he, hq8, ht⟩ : e = .returned (.int .i64 m) ∧ Rdr 55 w8 g T2 0 ∧ Turn w7 w8 g := hq.out
          subst he
          have HQ8 := Lib.hid hq8
          have HB8 := Lib.hid (ht.below HB7.out HG.out)
          clear hq hq8 ht
          go_wp2_with fail
          refine (name_c g T2 0 w8 HQ8.out (.inl rfl)).mono ?_
          intro e w9 hq
          rw [HALL.out.rn] at hq
          obtain ⟨he, hq9, ht⟩ : e = .returned (.string s) ∧ Rdr 55 w9 g [] 0 ∧ Turn w8 w9 g := hq.out
          subst he
          have HQ9 := Lib.hid hq9
          have HB9 := Lib.hid (ht.below HB8.out HG.out)
          clear hq hq9 ht
          go_wp2_with fail
          refine (left_k g _ _ w9 HQ9.out).mono ?_
          rintro e w10 ⟨rfl, rfl⟩
          go_wp2_with fail
          refine (err_k g _ _ w9 HQ9.out).mono ?_
          rintro e w10 ⟨rfl, rfl⟩
          go_wp2_with fail
          refine (U_c 20 none 0 [] (n : Int) E1 w9 (ReadsInt.nil _ _) (Nat.le_refl _) HALL.out.u).mono ?_
          intro e w10 hq
          obtain ⟨v1, he, ho, hb⟩ := hq.out
          subst he
          clear hq
          obtain ⟨A4, c4, rfl⟩ := own_slice ho
          have HO4 := Lib.hid ho
          have HB10 : Hid (Below w.heap.size w w10) := Lib.hid (HB9.out.trans (hb.mono HB9.out.size))
          clear ho hb
          go_wp2_with fail
          refine (read_c A4 c4 E1 w10 (own_reads' HO4.out) (own_cap HO4.out) HALL.out.b1 (by have := HALL.out.l1; omega)).mono ?_
          rintro e w11 ⟨rfl, hq, hb⟩
          obtain ⟨gx, hg⟩ : ∃ g, g = w10.heap.size := ⟨_, rfl⟩
          rw [← hg] at hq ⊢
          have HGX : Hid (w.heap.size ≤ gx) := Lib.hid (by rw [hg]; exact HB10.out.size)
          have HX11 := Lib.hid hq
          have HB11 : Hid (Below w.heap.size w w11) := Lib.hid (HB10.out.trans (hb.mono HB10.out.size))
          clear hq hb hg HO4
          go_wp2_with fail
          refine (S_c 20 none 0 [] m E2 w11 (ReadsInt.nil _ _) (Nat.le_refl _) HALL.out.sn).mono ?_
          intro e w12 hq
          obtain ⟨v1, he, ho, hb⟩ := hq.out
          subst he
          clear hq
          obtain ⟨A5, c5, rfl⟩ := own_slice ho
          have HO5 := Lib.hid ho
          have HX12 := Lib.hid (rdr_below HX11.out hb)
          have HB12 : Hid (Below w.heap.size w w12) := Lib.hid (HB11.out.trans (hb.mono HB11.out.size))
          clear ho hb
          go_wp2_with fail
          refine (read_c A5 c5 E2 w12 (own_reads' HO5.out) (own_cap HO5.out) HALL.out.b2 (by have := HALL.out.l2; omega)).mono ?_
          rintro e w13 ⟨rfl, hq, hb⟩
          obtain ⟨gy, hg⟩ : ∃ g, g = w12.heap.size := ⟨_, rfl⟩
          rw [← hg] at hq ⊢
          have HGY : Hid (w.heap.size ≤ gy) := Lib.hid (by rw [hg]; exact HB12.out.size)
          have HNE : Hid (gy ≠ gx) := Lib.hid (by obtain ⟨_, _, q, _⟩ := HX12.out.out; have := blk_lt q; omega)
          have HY13 := Lib.hid hq
          have HX13 := Lib.hid (rdr_below HX12.out hb)
          have HB13 : Hid (Below w.heap.size w w13) := Lib.hid (HB12.out.trans (hb.mono HB12.out.size))
          clear hq hb hg HO5 HX11 HX12
          have FU : Hid (k ≠ 1 → uF ((k : Int) - 1) E1 0 = (0, [], 11)) := Lib.hid (fun hk => by
            have := HALL.out.fu (k - 1) (by omega) (by omega) (by rcases H3.out with q | q; exact absurd q hk; exact q)
            rwa [show (((k - 1 : Nat) : Nat) : Int) = (k : Int) - 1 by omega] at this)
          have FS : Hid (j ≠ 1 → sF ((j : Int) - 1) E2 0 = (0, [], 11)) := Lib.hid (fun hk => by
            have := HALL.out.fs (j - 1) (by omega) (by omega) (by rcases J3.out with q | q; exact absurd q hk; (rw [show j - 1 - 1 = j - 2 by omega]; exact q))
            rwa [show (((j - 1 : Nat) : Nat) : Int) = (j : Int) - 1 by omega] at this)
          by_cases hk1 : (k : Int) = 1
          · have hk1b : ((k : Int) == 1) = true := by simpa using hk1
            clear hk1
            by_cases hj1 : (j : Int) = 1
            · have hj1b : ((j : Int) == 1) = true := by simpa using hj1
              clear hj1
              go_wp2_with fail
              go_ret
              exact ⟨rfl, HB13.out⟩
            · have hj1b : ((j : Int) == 1) = false := by simpa using hj1
              have hjn : j ≠ 1 := by omega
              have FS := Lib.hid (FS.out hjn)
              clear hj1 hjn
              go_wp2_with fail
              refine (s_c gy ((j : Int) - 1) E2 0 w13 HY13.out (.inl rfl)).mono ?_
              intro e w15 hq
              rw [FS.out] at hq
              obtain ⟨he, hqy, ht⟩ : e = .returned (.int .i64 0) ∧ Rdr 55 w15 gy [] 11 ∧ Turn w13 w15 gy := hq.out
              subst he
              have HY15 := Lib.hid hqy
              have HB15 := Lib.hid (ht.below HB13.out HGY.out)
              clear hq hqy ht
              go_wp2_with fail
              refine (err_k gy _ _ _ HY15.out).mono ?_
              rintro e w16 ⟨rfl, rfl⟩
              go_wp2_with fail
              go_ret
              exact ⟨rfl, HB15.out⟩
          · have hk1b : ((k : Int) == 1) = false := by simpa using hk1
            have hkn : k ≠ 1 := by omega
            have FU := Lib.hid (FU.out hkn)
            clear hk1 hkn
            go_wp2_with fail
            refine (u_c gx ((k : Int) - 1) E1 0 w13 HX13.out (.inl rfl)).mono ?_
            intro e w14 hq
            rw [FU.out] at hq
            obtain ⟨he, hqx, ht⟩ : e = .returned (.int .u64 0) ∧ Rdr 55 w14 gx [] 11 ∧ Turn w13 w14 gx := hq.out
            subst he
            have HX14 := Lib.hid hqx
            have HY14 := Lib.hid (rdr_turn HY13.out HX13.out ht HNE.out)
            have HB14 := Lib.hid (ht.below HB13.out HGX.out)
            clear hq hqx ht HX13 HY13
            go_wp2_with fail
            refine (err_k gx _ _ w14 HX14.out).mono ?_
            rintro e w15 ⟨rfl, rfl⟩
            by_cases hj1 : (j : Int) = 1
            · have hj1b : ((j : Int) == 1) = true := by simpa using hj1
              clear hj1
              go_wp2_with fail
              go_ret
              exact ⟨rfl, HB14.out⟩
            · have hj1b : ((j : Int) == 1) = false := by simpa using hj1
              have hjn : j ≠ 1 := by omega
              have FS := Lib.hid (FS.out hjn)
              clear hj1 hjn
              go_wp2_with fail
              refine (s_c gy ((j : Int) - 1) E2 0 w14 HY14.out (.inl rfl)).mono ?_
              intro e w15 hq
              rw [FS.out] at hq
              obtain ⟨he, hqy, ht⟩ : e = .returned (.int .i64 0) ∧ Rdr 55 w15 gy [] 11 ∧ Turn w14 w15 gy := hq.out
              subst he
              have HY15 := Lib.hid hqy
              have HB15 := Lib.hid (ht.below HB14.out HGY.out)
              clear hq hqy ht
              go_wp2_with fail
              refine (err_k gy _ _ _ HY15.out).mono ?_
              rintro e w16 ⟨rfl, rfl⟩
              go_wp2_with fail
              go_ret
              exact ⟨rfl, HB15.out⟩
set_option maxRecDepth 100000 in
theorem back_early (n : Int) (m : Int) (s : ByteArray) (more : Int) (w : World) (hz : s.size ≤ 140737488351232) (h : (s.size : Int) > 1000 ∨ validG s s.size 0 = false) :
    Calls Try.prog 8 #[.int .u64 n, .int .i64 m, .string s, .int .i64 more] w fun e w' => e = .returned (.bool true) ∧ Below w.heap.size w w' := by
  by_cases h1 : (s.size : Int) > 1000
  · have HZ := Lib.hid hz
    clear h hz
    go_enter Try.func8, Try.ntmps8
    go_wp2_with (first | (go_at_call 9; refine (awake_c _).mono ?_; rintro e w1 ⟨rfl, hb⟩; have HB := Lib.hid hb; clear hb) | (go_at_call 11; refine (rvalid_c s HZ.out _).mono ?_; rintro e w2 ⟨rfl, hb⟩; have HB2 := Lib.hid (HB.out.trans (hb.mono HB.out.size)); clear hb))
    go_ret
    exact ⟨rfl, HB2.out⟩
  · have hv : validG s s.size 0 = false := by rcases h with h | h; exact absurd h h1; exact h
    have h2 : (s.size : Int) ≤ 1000 := by omega
    have HZ := Lib.hid hz
    clear h hz h1
    go_enter Try.func8, Try.ntmps8
    go_wp2_with (first | (go_at_call 9; refine (awake_c _).mono ?_; rintro e w1 ⟨rfl, hb⟩; have HB := Lib.hid hb; clear hb) | (go_at_call 11; refine (rvalid_c s HZ.out _).mono ?_; rintro e w2 ⟨rfl, hb⟩; have HB2 := Lib.hid (HB.out.trans (hb.mono HB.out.size)); clear hb))
    go_ret
    exact ⟨rfl, HB2.out⟩
theorem back_walk (a0 a1 : Int) (a2 : ByteArray) (a3 : Int) (w : World) (w0 : (Lit.int .u64 a0).wf = true) (w1 : (Lit.int .i64 a1).wf = true) (w2 : a2.size ≤ 140737488351232) (w3 : (Lit.int .i64 a3).wf = true) :
    Calls Try.prog 8 #[.int .u64 a0, .int .i64 a1, .string a2, .int .i64 a3] w fun e w' => e = .returned (.bool true) ∧ Below w.heap.size w w' := by
  by_cases h : (a2.size : Int) > 1000 ∨ validG a2 a2.size 0 = false
  · exact back_early a0 a1 a2 a3 w w2 h
  · obtain ⟨q1, q2⟩ := bounds_u64 w0
    obtain ⟨q3, q4⟩ := bounds_i64 w1
    obtain ⟨n, rfl⟩ := Int.eq_ofNat_of_zero_le q1
    exact back_law n a1 a2 a3 w (by omega) q3 q4 (by omega) (by
      rcases hv : validG a2 a2.size 0 with _ | _
      · exact absurd (.inr hv) h
      · rfl)
end Go.Proofs.Ytnpiicnhdpldaaa.Lb
