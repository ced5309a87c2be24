/-
  The walks of chapter 8's long.less and long.quotient. Condition: numbers in words, no longer than 1000000 of them; what is taken away is no greater; the quotient is less than 2^64.
  The program's parts, jamming, order and sum, in closed form. No condition but that a word is one.
  Sizes, Kind, Canonical, Round and Parts of the program's floats, in closed form. No condition but that a word is one.
  The walk of chapter 8's binary. Condition: hex digits, no more than 1000000 of them; an exponent between -2^40 and 2^40.
-/
import Derived.OpenShut
import Derived.Test.YtjecdciabpjgcaaGreatDoorZs0
import Derived.Test.YtjecdciabpjgcaaGreatDoorZs1
import Derived.Test.YtjecdciabpjgcaaGreatDoorZs2
import Derived.Test.YtjecdciabpjgcaaGreatDoorZs3
import Derived.Test.YtjecdciabpjgcaaGreatDoorZs4
import Derived.Test.YtjecdciabpjgcaaGreatDoorZs5
namespace Go.Proofs.YtjecdciabpjgcaaGreatDoor.Lz
set_option linter.unusedVariables false
set_option linter.unusedSimpArgs false
open Go.RowKit Go.Proofs.YtjecdciabpjgcaaGreatDoorW.PrintWords Go.Proofs.YtjecdciabpjgcaaGreatDoor.Lx
theorem sub64_c (x y b : Nat) (hb : b ≤ 1) (w : World) : (callFunc 162 #[.int .u64 (x : Int), .int .u64 (y : Int), .int .u64 (b : Int)]).run Tryz.prog w =
    .ok (.value (.tuple #[.int .u64 (((x + B64 - (y + b)) % B64 : Nat) : Int), .int .u64 ((if x < y + b then 1 else 0 : Nat) : Int)])) w := by
  rw [run_callFunc_extern Tryz.func162 (by kernel_rfl) (by kernel_rfl) (by kernel_rfl) (e := sub64Entry) (by kernel_rfl), run_sub64 x y b hb]
  have e : x + B64 - (y + b) = x + 18446744073709551616 - y - b := by unfold B64; omega
  rw [e]
  rfl
def LsR (w : World) (l m : List Nat) (g : Nat) (v6 v15 : Value) (wr : World) : Prop :=
  ∃ (i bw : Nat) (pre : List Nat), v15 = .int .i64 (i : Int) ∧ i ≤ l.length ∧ v6 = .int .u64 (bw : Int) ∧ bw ≤ 1 ∧ pre.length = i ∧ wr.heap[g]? = some (wo (pre ++ List.replicate (l.length - i) 0)) ∧ pre ++ sb B64 (l.drop i) (m.drop i) bw = sb B64 l m 0 ∧ Below w.heap.size w wr
set_option maxRecDepth 1000000 in
set_option maxHeartbeats 4000000 in
theorem less_c (a b : Nat) (hab : b ≤ a) (hla : (wds B64 a).length ≤ 1000000) (hlb : (wds B64 b).length ≤ 1000000) (va vb : Value) (w : World) (ha : LW w va a) (hb : LW w vb b) :
    Calls Tryz.prog 138 #[va, vb] w (LwQ w (a - b)) := by
  obtain ⟨A, c, rfl, hc, hr⟩ := ha.out
  obtain ⟨C, d, rfl, hd, hs⟩ := hb.out
  have HR := Lib.hid hr
  have HS := Lib.hid hs
  have HLA : Hid (∀ x ∈ wds B64 a, x < B64) := Lib.hid (wds_lt B64 B64_2 a)
  have HLB : Hid (∀ x ∈ wds B64 b, x < B64) := Lib.hid (wds_lt B64 B64_2 b)
  have HVA := Lib.hid (val_wds B64 B64_2 a)
  have HVB := Lib.hid (val_wds B64 B64_2 b)
  generalize wds B64 a = l at *
  generalize wds B64 b = m at *
  have HAB := Lib.hid hab
  have hmk := make_c l.length (by omega) w
  have hll : (l.length : Int) ≤ 1000000 := by omega
  have hlm : (m.length : Int) ≤ 1000000 := by omega
  have HA : Hid (LsR w l m w.heap.size (.int .u64 0) (.int .i64 0) (w.alloc (wo (List.replicate l.length 0)))) := Lib.hid
    ⟨0, 0, [], rfl, Nat.zero_le _, rfl, by omega, rfl, by rw [heap_alloc_new]; rfl, rfl, (Below.refl _ _).alloc (Nat.le_refl _) _⟩
  clear ha hb hr hs hc hd hab
  go_enter Tryz.func138, Tryz.ntmps138
  go_wp2
  obtain ⟨g, hg⟩ : ∃ g, g = w.heap.size := ⟨_, rfl⟩
  have HG : Hid (w.heap.size ≤ g) := Lib.hid (Nat.le_of_eq hg.symm)
  rw [← hg] at HA ⊢
  clear hg hmk
  go_loopw [6, 15] (LsR w l m g) (fun _ v15 _ => l.length - numV v15)
  case atStart => exact HA.out
  case round =>
    obtain ⟨i, bw, pre, rfl, hi, rfl, hbw, hpl, hO, hsb, hb⟩ := hrel
    have HO := Lib.hid hO
    have HB := Lib.hid hb
    have HSB := Lib.hid hsb
    have hi0 : 0 ≤ (i : Int) := by omega
    clear hO hb hsb HA
    by_cases hlt : i < l.length
    · have hlt' : (i : Int) < (l.length : Int) := by omega
      obtain ⟨x, hx⟩ : ∃ x, l[i]? = some x := ⟨l[i]'hlt, List.getElem?_eq_getElem _⟩
      obtain ⟨ad, hA, hcx⟩ := reads_at HR.out i x hx
      subst hA
      replace hcx := (HB.out.cell (World.block_lt_of_cell? _ _ hcx)).trans hcx
      have hdr : l.drop i = x :: l.drop (i + 1) := by
        obtain ⟨h1, h2⟩ := List.getElem?_eq_some_iff.1 hx
        rw [List.drop_eq_getElem_cons h1, h2]
      have hrep : List.replicate (l.length - i) 0 = 0 :: List.replicate (l.length - (i + 1)) 0 := by rw [← List.replicate_succ]; congr 1; omega
      have hO := HO.out
      rw [hrep] at hO
      have f0 := wo_frozen hO i
      have c0 := wo_cell hO i 0 (by rw [← hpl, List.getElem?_append_right (Nat.le_refl _), Nat.sub_self]; rfl)
      obtain ⟨y, hy⟩ : ∃ y, y = (m.drop i).headD 0 := ⟨_, rfl⟩
      obtain ⟨s, hs⟩ : ∃ s, s = (x + B64 - (y + bw)) % B64 := ⟨_, rfl⟩
      obtain ⟨bw2, hbw2⟩ : ∃ b, b = (if x < y + bw then 1 else 0) := ⟨_, rfl⟩
      have hsub := fun (w : World) => sub64_c x y bw hbw w
      rw [← hs, ← hbw2] at hsub
      have HB2 : Hid (bw2 ≤ 1) := Lib.hid (by rw [hbw2]; split <;> omega)
      have HO1 : Hid ((wr.setCell ⟨g, i, none⟩ (.int .u64 (s : Int))).heap[g]? = some (wo ((pre ++ [s]) ++ List.replicate (l.length - (i + 1)) 0))) := Lib.hid (by
        have h1 := wo_set hO i s
        rw [h1]
        congr 2
        rw [← hpl, List.set_append_right _ _ (Nat.le_refl _), Nat.sub_self]
        simp)
      have HS1 : Hid ((pre ++ [s]) ++ sb B64 (l.drop (i + 1)) (m.drop (i + 1)) bw2 = sb B64 l m 0) := Lib.hid (by
        rw [← HSB.out, hdr, hs, hbw2, hy, List.append_assoc]
        show pre ++ _ :: sb B64 (l.drop (i + 1)) (m.drop (i + 1)) _ = pre ++ ((x + B64 - ((m.drop i).headD 0 + bw)) % B64 :: sb B64 (l.drop (i + 1)) (m.drop i).tail _)
        rw [List.tail_drop])
      have HSUB := Lib.hid hsub
      by_cases him : i < m.length
      · have him' : (i : Int) < (m.length : Int) := by omega
        obtain ⟨y', hy'⟩ : ∃ y', m[i]? = some y' := ⟨m[i]'him, List.getElem?_eq_getElem _⟩
        have e : y' = y := by
          obtain ⟨h1, h2⟩ := List.getElem?_eq_some_iff.1 hy'
          rw [hy, List.drop_eq_getElem_cons h1, h2]
          rfl
        subst e
        obtain ⟨ae, hA, hcy⟩ := reads_at HS.out i y' hy'
        subst hA
        replace hcy := (HB.out.cell (World.block_lt_of_cell? _ _ hcy)).trans hcy
        have hsub := HSUB.out
        clear hs hbw2 hy hdr hrep hO hx hy' hsub
        have hsub := HSUB.out
        go_wp2
        go_roundw
        case rel => exact ⟨i + 1, bw2, pre ++ [s], by push_cast; rfl, by omega, rfl, HB2.out, by simp [hpl], HO1.out, HS1.out, HB.out.setCell HG.out _⟩
        case measure => simp only [numV]; omega
      · have him' : (m.length : Int) ≤ (i : Int) := by omega
        have e : y = 0 := by rw [hy, List.drop_of_length_le (by omega)]; rfl
        subst e
        have hz0 : ((0 : Nat) : Int) = 0 := rfl
        rw [hz0] at HSUB
        clear hs hbw2 hy hdr hrep hO hx hsub hz0
        have hsub := HSUB.out
        go_wp2
        go_roundw
        case rel => exact ⟨i + 1, bw2, pre ++ [s], by push_cast; rfl, by omega, rfl, HB2.out, by simp [hpl], HO1.out, HS1.out, HB.out.setCell HG.out _⟩
        case measure => simp only [numV]; omega
    · have hin : i = l.length := by omega
      have hge : (l.length : Int) ≤ (i : Int) := by omega
      have hpre : pre = sb B64 l m 0 := by
        have h := HSB.out
        rw [hin, List.drop_length] at h
        have h2 : pre ++ [] = sb B64 l m 0 := h
        rwa [List.append_nil] at h2
      have hO : wr.heap[g]? = some (wo pre) := by
        have h := HO.out
        rw [hin, Nat.sub_self] at h
        have h2 : wr.heap[g]? = some (wo (pre ++ [])) := h
        rwa [List.append_nil] at h2
      have hpB : ∀ z ∈ pre, z < B64 := by rw [hpre]; exact sb_lt B64 B64_2 l m 0
      have hval : val B64 pre = a - b := by
        have h := val_sb B64 B64_2 l m 0 HLA.out HLB.out (by omega) (by rw [HVA.out, HVB.out]; have := HAB.out; omega)
        rw [← hpre, HVA.out, HVB.out] at h
        omega
      have hLR := wo_LR hO (Nat.le_refl _) (by omega)
      have HCUT := Lib.hid (cut_c pre hpB (by omega) _ wr hLR)
      have hpl2 : pre.length = l.length := by omega
      rw [hval, hpl2] at HCUT
      clear hpre hO hpB hval hLR hin hlt hpl2
      go_wp2_with fail
      refine HCUT.out.mono ?_
      intro e w2 hq
      obtain ⟨v, he, hv, hb⟩ := hq.out
      subst he
      have HB2 := Lib.hid (below_step HB.out hb)
      have HV2 := Lib.hid hv
      clear hq hb hv
      go_wp2
      go_ret
      exact ⟨_, rfl, HV2.out, HB2.out⟩
theorem wds_len_le (B : Nat) (hB : 2 ≤ B) (a b : Nat) (h : a ≤ b) : (wds B a).length ≤ (wds B b).length := by
  rcases Nat.lt_or_ge (wds B b).length (wds B a).length with h1 | h1
  · have := wds_len_mono B hB b a h1
    omega
  · exact h1
theorem wds_len_shift (d i : Nat) (hi : i < 64) : (wds B64 (d * 2 ^ i)).length ≤ (wds B64 d).length + 1 := by
  rcases Nat.eq_zero_or_pos d with h0 | h0
  · subst h0; rw [Nat.zero_mul]; omega
  · have h1 : d * 2 ^ i ≤ 0 + B64 * d := by
      rw [Nat.zero_add, Nat.mul_comm B64]
      refine Nat.mul_le_mul_left _ ?_
      unfold B64
      exact Nat.le_of_lt (Nat.pow_lt_pow_right (by decide) hi)
    have h2 := wds_cons B64 0 d B64_2 (by decide) (.inr h0)
    have h3 := wds_len_le B64 B64_2 _ _ h1
    rw [h2] at h3
    exact h3
theorem or_top (r a b : Nat) (hb : b < 2 ^ r) (ha : a < B64) (hbB : b < B64) (hd : 2 ^ r ∣ a) : Go.bits .or .u64 (a : Int) (b : Int) = ((a + b : Nat) : Int) := by
  obtain ⟨k, rfl⟩ := hd
  have h1 : (2 ^ r * k ||| b) = 2 ^ r * k + b := (Nat.two_pow_add_eq_or_of_lt hb k).symm
  have e : Go.bits .or .u64 ((2 ^ r * k : Nat) : Int) (b : Int) = IntKind.u64.wrap (((BitVec.ofInt 64 ((2 ^ r * k : Nat) : Int) ||| BitVec.ofInt 64 (b : Int)).toNat : Nat) : Int) := rfl
  have t1 : (BitVec.ofInt 64 (b : Int)).toNat = b := by rw [BitVec.ofInt_natCast, BitVec.toNat_ofNat]; exact Nat.mod_eq_of_lt hbB
  have t2 : (BitVec.ofInt 64 ((2 ^ r * k : Nat) : Int)).toNat = 2 ^ r * k := by rw [BitVec.ofInt_natCast, BitVec.toNat_ofNat]; exact Nat.mod_eq_of_lt ha
  rw [e, BitVec.toNat_or, t1, t2, h1]
  have hlt : 2 ^ r * k + b < B64 := by
    rw [← h1]
    exact Nat.or_lt_two_pow (n := 64) ha hbB
  exact IntWalk.u64_in _ (by unfold B64 at hlt; omega)
def QtR (w : World) (a d : Nat) (v6 v7 v8 : Value) (wr : World) : Prop :=
  ∃ (j q rest : Nat), v8 = .int .i64 ((j : Int) - 1) ∧ j ≤ 64 ∧ v6 = .int .u64 (q : Int) ∧ q < B64 ∧ 2 ^ j ∣ q ∧ LW wr v7 rest ∧ q * d + rest = a ∧ rest < d * 2 ^ j ∧ Below w.heap.size w wr
structure QuQ (w : World) (q : Nat) (b : Bool) (e : Ending) (w' : World) : Prop where mk ::
  (out : e = .returned (.tuple #[.int .u64 (q : Int), .bool b]) ∧ Below w.heap.size w w')
set_option maxRecDepth 1000000 in
set_option maxHeartbeats 4000000 in
theorem quot_c (a d : Nat) (hd : 0 < d) (had : a < d * B64) (hla : (wds B64 a).length ≤ 900000) (hld : (wds B64 d).length ≤ 900000) (va vd : Value) (w : World) (ha : LW w va a) (hvd : LW w vd d) :
    Calls Tryz.prog 104 #[va, vd] w (QuQ w (a / d) (decide (0 < a % d))) := by
  have HA : Hid (QtR w a d (.int .u64 0) va (.int .i64 63) w) := Lib.hid
    ⟨64, 0, a, rfl, Nat.le_refl _, rfl, by decide, Nat.dvd_zero _, ha, by omega, had, Below.refl _ _⟩
  have HD := Lib.hid hvd
  have HLD := Lib.hid hld
  have HLA := Lib.hid hla
  have HDP := Lib.hid hd
  clear ha hvd hla hld had hd
  go_enter Tryz.func104, Tryz.ntmps104
  go_wp2
  go_loopw [6, 7, 8] (QtR w a d) (fun _ _ v8 _ => numP v8)
  case atStart => exact HA.out
  case round =>
    obtain ⟨j, q, rest, rfl, hj, rfl, hq, hdv, hrest, heq, hlt, hb⟩ := hrel
    have HB := Lib.hid hb
    have HR := Lib.hid hrest
    have HQ := Lib.hid hq
    have HDV := Lib.hid hdv
    have HE := Lib.hid heq
    have HL := Lib.hid hlt
    clear hb hrest hq hdv heq hlt HA
    by_cases hj0 : j = 0
    · subst hj0
      have e0 : ((0 : Nat) : Int) - 1 = -1 := rfl
      rw [e0]
      have hl : rest < d := by have := HL.out; simpa using this
      have hq2 : a / d = q := by
        have := HE.out
        rw [← this, Nat.mul_comm, Nat.mul_add_div HDP.out, Nat.div_eq_of_lt hl, Nat.add_zero]
      have hr2 : a % d = rest := by
        have := HE.out
        rw [← this, Nat.mul_comm, Nat.mul_add_mod, Nat.mod_eq_of_lt hl]
      have HQ3 := Lib.hid hq2
      have HR3 := Lib.hid hr2
      obtain ⟨A, c, hv, hc, hrd⟩ := HR.out.out
      subst hv
      have HN : Hid (decide (0 < (wds B64 rest).length) = decide (0 < rest)) := Lib.hid (by
        rcases Nat.eq_zero_or_pos rest with h | h
        · rw [h, wds_zero]; rfl
        · rw [wds_pos B64 rest B64_2 h]; simp [h])
      obtain ⟨L, hL⟩ : ∃ L, (wds B64 rest).length = L := ⟨_, rfl⟩
      rw [hL] at HN ⊢
      clear hq2 hr2 hl hc hrd hL
      go_wp2
      go_ret2
      exact ⟨by rw [HQ3.out, HR3.out, ← HN.out]; rfl, HB.out⟩
    · obtain ⟨i, rfl⟩ : ∃ i, j = i + 1 := ⟨j - 1, by omega⟩
      have e1 : ((i + 1 : Nat) : Int) - 1 = (i : Int) := by push_cast; omega
      rw [e1]
      have hi0 : 0 ≤ (i : Int) := by omega
      have hi63 : (i : Int) < 64 := by omega
      have hlr : (wds B64 rest).length ≤ 900000 := Nat.le_trans (wds_len_le B64 B64_2 rest a (by have := HE.out; omega)) HLA.out
      have hls := wds_len_shift d i (by omega)
      have hld := HLD.out
      have HLF := Lib.hid (fun w hv => left_c d i (by omega) (by omega) vd w hv)
      obtain ⟨by_, hby⟩ : ∃ b, d * 2 ^ i = b := ⟨_, rfl⟩
      rw [hby] at HLF hls
      have HBL := Lib.hid (fun w va vb ha hb => below_c rest by_ va vb w ha hb (by omega) (by omega))
      have HLS := Lib.hid (fun w va vb h ha hb => less_c rest by_ h (by omega) (by omega) va vb w ha hb)
      have HD2 := Lib.hid (HD.out.below HB.out)
      have hpow : 2 ^ (i + 1) = 2 * 2 ^ i := by rw [Nat.pow_succ, Nat.mul_comm]
      have HBY := Lib.hid hby
      clear hlr hls hld e1 hby hj0
      go_wp2_with fail
      refine (HLF.out _ HD2.out).mono ?_
      intro e w1 hq
      obtain ⟨vb, he, hvb, hb1⟩ := hq.out
      subst he
      have HB1 := Lib.hid (below_step HB.out hb1)
      have HVB := Lib.hid hvb
      have HR1 := Lib.hid (HR.out.below hb1)
      clear hq hvb hb1 HLF HD2
      go_wp2_with fail
      refine (HBL.out _ _ _ HR1.out HVB.out).mono ?_
      intro e w2 hq
      obtain ⟨he, hb2⟩ := hq.out
      subst he
      have HB2 := Lib.hid (below_step HB1.out hb2)
      have HVB2 := Lib.hid (HVB.out.below hb2)
      have HR2 := Lib.hid (HR1.out.below hb2)
      clear hq hb2 HBL HVB HR1
      by_cases hlt : rest < by_
      · have hdec : decide (rest < by_) = true := decide_eq_true hlt
        rw [hdec]
        have HL2 : Hid (rest < d * 2 ^ i) := Lib.hid (by rw [HBY.out]; exact hlt)
        have HDV2 : Hid (2 ^ i ∣ q) := Lib.hid (Nat.dvd_trans ⟨2, by rw [hpow]; ac_rfl⟩ HDV.out)
        clear hdec hlt hpow HLS
        go_wp2
        go_roundw
        case rel => exact ⟨i, q, rest, rfl, by omega, rfl, HQ.out, HDV2.out, HR2.out, HE.out, HL2.out, HB2.out⟩
        case measure => simp only [numP]; omega
      · have hdec : decide (rest < by_) = false := decide_eq_false hlt
        rw [hdec]
        have h2i : 2 ^ i < B64 := (show 2 ^ i < 2 ^ 64 from Nat.pow_lt_pow_right (by decide) (by omega))
        have hor : bits .or .u64 (q : Int) ((2 ^ i : Nat) : Int) = ((q + 2 ^ i : Nat) : Int) := or_top (i + 1) q (2 ^ i) (by rw [hpow]; have := Nat.pow_pos (n := i) (show 0 < 2 by decide); omega) HQ.out h2i HDV.out
        have hshl : IntKind.u64.wrap (1 * 2 ^ i) = ((2 ^ i : Nat) : Int) := by
          have h1 : ((1 : Int) * 2 ^ i) = ((2 ^ i : Nat) : Int) := by push_cast; omega
          rw [h1, wrapN64, Nat.mod_eq_of_lt h2i]
        have hshl2 : IntKind.u64.wrap ((2 : Int) ^ i) = ((2 ^ i : Nat) : Int) := by
          have h1 : ((2 : Int) ^ i) = ((2 ^ i : Nat) : Int) := by push_cast; omega
          rw [h1, wrapN64, Nat.mod_eq_of_lt h2i]
        obtain ⟨t, ht⟩ : ∃ t, 2 ^ i = t := ⟨_, rfl⟩
        rw [ht] at hor hshl hshl2 h2i hpow
        have HQ2 : Hid (q + t < B64) := Lib.hid (by
          obtain ⟨k, hk⟩ := HDV.out
          have h1 : q ||| t = q + t := by rw [hk, ← ht]; exact (Nat.two_pow_add_eq_or_of_lt (show 2 ^ i < 2 ^ (i + 1) from Nat.pow_lt_pow_right (by decide) (by omega)) k).symm
          rw [← h1]
          exact Nat.or_lt_two_pow (n := 64) HQ.out h2i)
        have HDV2 : Hid (2 ^ i ∣ q + t) := Lib.hid (by
          rw [← ht]
          exact Nat.dvd_add (Nat.dvd_trans ⟨2, by rw [Nat.pow_succ]⟩ HDV.out) (Nat.dvd_refl _))
        have HE2 : Hid ((q + t) * d + (rest - by_) = a) := Lib.hid (by
          have h1 := HE.out
          have h2 := HBY.out
          rw [ht] at h2
          rw [Nat.add_mul, Nat.mul_comm t d, h2]
          omega)
        have HL2 : Hid (rest - by_ < d * 2 ^ i) := Lib.hid (by
          have h1 := HL.out
          rw [Nat.pow_succ, ← Nat.mul_assoc, HBY.out] at h1
          rw [HBY.out]
          omega)
        have HLS2 := Lib.hid (HLS.out w2 _ _ (by omega) HR2.out HVB2.out)
        clear hdec hlt hpow HLS ht h2i
        go_wp2_with fail
        refine (HLS2.out).mono ?_
        intro e w3 hq
        obtain ⟨vr, he, hvr, hb3⟩ := hq.out
        subst he
        have HB3 := Lib.hid (below_step HB2.out hb3)
        have HVR := Lib.hid hvr
        clear hq hvr hb3 HLS2
        go_wp2
        go_roundw
        case rel => exact ⟨i, q + t, rest - by_, rfl, by omega, rfl, HQ2.out, HDV2.out, HVR.out, HE2.out, HL2.out, HB3.out⟩
        case measure => simp only [numP]; omega
end Go.Proofs.YtjecdciabpjgcaaGreatDoor.Lz
namespace Go.Proofs.YtjecdciabpjgcaaGreatDoor.Pure
set_option linter.unusedVariables false
set_option linter.unusedSimpArgs false
open Go.RowKit Go.Proofs.YtjecdciabpjgcaaGreatDoor.PLz Go.Proofs.YtjecdciabpjgcaaGreatDoor.Fl Go.Proofs.YtjecdciabpjgcaaGreatDoorW.PrintWords
theorem c_parts {p q f} (h : Pq p q f) (A : Nat) (hA : A < 18446744073709551616) :
    floats_format_parts.f p q A = some ((magOf f (rungOf f A) : Int), f.leastPlace + (plOf f (rungOf f A) : Int)) := by
  obtain ⟨w1, w2, w3, w4, w5, w6, w7, w8, w9, w10, w11, w12⟩ := c_w h
  have hr : rungOf f A < f.signWeight := Nat.mod_lt _ (pw_pos _)
  have hb : 0 < f.binade := pw_pos _
  generalize hR : rungOf f A = r at *
  have e1 : IntKind.u64.wrap p = (f.fractionBits : Int) := by rw [IntKind.wrap_u64, w1]; omega
  have e2 : shr .u64 (r : Int) (f.fractionBits : Int) = ((r / f.binade : Nat) : Int) := shr_nat r f.fractionBits (by omega)
  have e3 : shl .u64 1 (f.fractionBits : Int) = (f.binade : Int) := by
    have := shl_nat 1 f.fractionBits (by rw [Nat.one_mul]; exact Nat.lt_of_le_of_lt w10 (by decide)) (by omega)
    rw [Nat.one_mul] at this
    exact this
  have e4 : Go.bits .and .u64 (r : Int) (IntKind.u64.wrap ((f.binade : Int) - 1)) = ((r % f.binade : Nat) : Int) := by
    rw [IntKind.wrap_u64, show ((f.binade : Int) - 1) % 18446744073709551616 = (f.binade : Int) - 1 from by omega]
    exact and_mask r f.fractionBits (by omega) (by omega)
  have hx : r / f.binade ≤ r := Nat.div_le_self _ _
  have hx2 : r / f.binade < 4096 := by
    refine (Nat.div_lt_iff_lt_mul hb).2 ?_
    rw [w11] at hr
    have : 2 ^ f.exponentBits ≤ 2 ^ 11 := Nat.pow_le_pow_right (by decide) w5
    have := Nat.mul_le_mul_right f.binade this
    omega
  have hm : r % f.binade < f.binade := Nat.mod_lt _ hb
  unfold floats_format_parts.f
  rw [c_size h A hA, hR]
  simp only [Option.bind_some]
  rw [if_pos (by rw [IntKind.wrap_u64]; omega), e1, e2, e3, e4, c_least h]
  simp only [Option.bind_some]
  rw [show wrap64 ((r / f.binade : Nat) : Int) = ((r / f.binade : Nat) : Int) from by
    generalize r / f.binade = z at *
    unfold wrap64; omega]
  have zl : r < f.binade ↔ r / f.binade = 0 := by
    constructor
    · exact Nat.div_eq_of_lt
    · intro e
      have := Nat.div_add_mod r f.binade
      rw [e] at this; omega
  by_cases c : r < f.binade
  · have z := zl.1 c
    rw [if_pos (by rw [z]; rfl)]
    unfold magOf plOf
    rw [if_pos c, z, Nat.mod_eq_of_lt c]
    refine congrArg some (Prod.ext rfl ?_)
    show f.leastPlace = f.leastPlace + ((0 - 1 : Nat) : Int)
    omega
  · have z := mt zl.2 c
    rw [if_neg (by omega)]
    unfold magOf plOf
    rw [if_neg c]
    have e5 : Go.bits .or .u64 ((r % f.binade : Nat) : Int) (f.binade : Int) = ((f.binade + r % f.binade : Nat) : Int) := or_top (r % f.binade) f.fractionBits hm (by omega)
    rw [e5]
    refine congrArg some (Prod.ext rfl ?_)
    show wrap64 (wrap64 (f.leastPlace + ((r / f.binade : Nat) : Int)) - 1) = _
    generalize r / f.binade = y at *
    unfold wrap64
    omega
/-- A result, or the NaN that is answered. -/
def resP (p : Int) : Option Nat → Int
  | some r => r
  | none => if p = 23 then canon 32 else canon 64
theorem c_nanv {p q f} (h : Pq p q f) : floats_format_nan.f p q = some (resP p none) := by
  rcases h with ⟨rfl, rfl, rfl⟩ | ⟨rfl, rfl, rfl⟩ <;> decide +kernel
end Go.Proofs.YtjecdciabpjgcaaGreatDoor.Pure
namespace Go.Proofs.YtjecdciabpjgcaaGreatDoor.Pure
set_option linter.unusedVariables false
set_option linter.unusedSimpArgs false
open Go.RowKit Go.Proofs.YtjecdciabpjgcaaGreatDoor.PLz Go.Proofs.YtjecdciabpjgcaaGreatDoor.Fl Go.Proofs.YtjecdciabpjgcaaGreatDoorW.PrintWords Go.Proofs.YtjecdciabpjgcaaGreatDoorW.PrintLast
/-- A size that is right, its format, and what is told of both. -/
structure Sz (n p q : Int) (f : Ieee.Format) : Prop where
  ok : n = 32 ∨ n = 64
  pq : Pq p q f
  of : floats_of.f n = some (p, q)
  fm : fmtOf n = f
  sg : sgnI n = (f.signWeight : Int)
  res : ∀ o, resP p o = resOf n o
  cut : ∀ a : Nat, a < 18446744073709551616 → a % (2 * f.signWeight) = wOf n (a : Int)
theorem sz (n : Int) (h : n = 32 ∨ n = 64) : ∃ p q f, Sz n p q f := by
  rcases h with rfl | rfl
  · refine ⟨23, 8, Ieee.single, .inl rfl, .inl ⟨rfl, rfl, rfl⟩, rfl, rfl, by decide +kernel, ?_, ?_⟩
    · intro o; cases o <;> rfl
    · intro a ha
      rw [s_sgn]
      show a % 4294967296 = ((a : Int) % 4294967296).toNat
      omega
  · refine ⟨52, 11, Ieee.double, .inr rfl, .inr ⟨rfl, rfl, rfl⟩, rfl, rfl, by decide +kernel, ?_, ?_⟩
    · intro o; cases o <;> rfl
    · intro a ha
      rw [d_sgn]
      show a % 18446744073709551616 = (a : Int).toNat
      omega
theorem Sz.lt {n p q f} (h : Sz n p q f) (a : Nat) (ha : a < 18446744073709551616) : wOf n (a : Int) < 2 * f.signWeight := by
  rw [← h.cut a ha]
  exact Nat.mod_lt _ (by have : 0 < f.signWeight := pw_pos _
                         omega)
theorem of_wrong (n : Int) (h : n ≠ 32) (h' : n ≠ 64) : floats_of.f n = some (0, 0) := by
  unfold floats_of.f; rw [if_neg h, if_neg h']
theorem none_wrong : floats_format_none.f 0 0 = some true := by decide +kernel
theorem Sz.none {n p q f} (h : Sz n p q f) : floats_format_none.f p q = some false := c_none h.pq
theorem Sz.same {n p q f} (h : Sz n p q f) (a : Nat) (ha : a < 18446744073709551616) : rungOf f a = rungOf f (wOf n (a : Int)) ∧ negOf f a = negOf f (wOf n (a : Int)) := by
  rw [← h.cut a ha]
  have hs : 0 < f.signWeight := pw_pos _
  have hd := Nat.div_add_mod a (2 * f.signWeight)
  have hm := Nat.mod_lt a (show 0 < 2 * f.signWeight by omega)
  generalize hq : a / (2 * f.signWeight) = x at *
  generalize hr : a % (2 * f.signWeight) = r at *
  have e : a = f.signWeight * (2 * x) + r := by rw [← hd]; have : 2 * f.signWeight * x = f.signWeight * (2 * x) := by ac_rfl
                                                omega
  constructor
  · unfold rungOf; rw [e, Nat.mul_add_mod]
  · unfold negOf
    rw [e, Nat.mul_add_div hs]
    have : (2 * x + r / f.signWeight) % 2 = r / f.signWeight % 2 := by omega
    rw [this]
theorem c_Kind (n : Int) (a : Nat) (ha : a < 18446744073709551616) : floats_Kind.f n a = some (kindF n a) := by
  by_cases hn : n = 32 ∨ n = 64
  · obtain ⟨p, q, f, S⟩ := sz n hn
    unfold floats_Kind.f kindF
    rw [S.of, if_neg (by omega), S.fm]
    simp only [Option.bind_some]
    rw [c_size S.pq a ha, S.none, c_inf S.pq, (S.same a ha).1]
    simp only [Option.bind_some]
    rw [if_neg (by decide)]
    unfold nanW
    generalize rungOf f (wOf n (a : Int)) = r
    by_cases z : r = 0
    · rw [if_pos (by omega), if_pos z]
    · rw [if_neg (by omega), if_neg z]
      by_cases l : r < f.infRung
      · rw [if_pos (by omega), if_neg (by rw [decide_eq_false (by omega)]; decide), if_neg (by omega)]
      · rw [if_neg (by omega)]
        by_cases e : r = f.infRung
        · rw [if_pos (by omega), if_neg (by rw [decide_eq_false (by omega)]; decide), if_pos e]
        · rw [if_neg (by omega), if_pos (decide_eq_true (by omega))]
  · unfold floats_Kind.f kindF
    rw [of_wrong n (by omega) (by omega), if_pos (by omega)]
    simp only [Option.bind_some]
    have : ∃ s, floats_format_size.f 0 0 (a : Int) = some s := by
      unfold floats_format_size.f floats_format_sign.f
      rw [if_pos (by rw [IntKind.wrap_u64]; omega)]
      exact ⟨_, rfl⟩
    obtain ⟨s, hs⟩ := this
    rw [hs, none_wrong]
    simp only [Option.bind_some]
    rw [if_pos True.intro]
theorem c_Canonical (n : Int) : floats_Canonical.f n = some (if n = 32 ∨ n = 64 then canon n else 0) := by
  by_cases hn : n = 32 ∨ n = 64
  · obtain ⟨p, q, f, S⟩ := sz n hn
    unfold floats_Canonical.f
    rw [S.of, if_pos hn]
    simp only [Option.bind_some]
    rw [S.none]
    simp only [Option.bind_some]
    rw [if_neg (by decide), c_nanv S.pq, S.res none]
    rfl
  · unfold floats_Canonical.f
    rw [of_wrong n (by omega) (by omega), if_neg hn]
    simp only [Option.bind_some]
    rw [none_wrong]
    simp only [Option.bind_some]
    rw [if_pos True.intro]
def roundF (n : Int) (neg : Bool) (m : Nat) (e : Int) (more : Bool) : Int × Int :=
  if (n ≠ 32 ∧ n ≠ 64) ∨ (more = true ∧ m < 288230376151711744) then (0, 1) else ((((fmtOf n).nearest neg (2 * m + more.toNat) (e - 1) : Nat) : Int), 0)
theorem c_Round (n : Int) (neg : Bool) (m : Nat) (hm : m < 18446744073709551616) (e : Int) (more : Bool) (k : Nat) (hk : 4 ≤ k) : floats_Round.f k n neg m e more = some (roundF n neg m e more) := by
  obtain ⟨k, rfl⟩ : ∃ j, k = j + 1 := ⟨k - 1, by omega⟩
  have bad : floats_Round.j0 (k + 1) n neg m e more true = some (0, 1) := by
    simp only [floats_Round.j0]; rw [if_pos True.intro]
  unfold floats_Round.f roundF
  by_cases hn : n = 32 ∨ n = 64
  · obtain ⟨p, q, f, S⟩ := sz n hn
    rw [S.of]
    simp only [Option.bind_some]
    rw [S.none]
    simp only [Option.bind_some]
    rw [if_neg Bool.false_ne_true, S.fm]
    have good : (more = true → 288230376151711744 ≤ m) → floats_Round.j0 (k + 1) n neg m e more false = some (((f.nearest neg (2 * m + more.toNat) (e - 1) : Nat) : Int), 0) := by
      intro h
      simp only [floats_Round.j0]
      rw [if_neg Bool.false_ne_true, S.of]
      simp only [Option.bind_some]
      rw [c_round' S.pq neg m hm e more h k (by omega)]
      simp only [Option.bind_some]
    cases more
    · rw [if_neg Bool.false_ne_true, if_neg (fun x => x.elim (fun y => by omega) (fun y => by cases y.1))]
      exact good (fun x => by cases x)
    · rw [if_pos rfl]
      by_cases c : m < 288230376151711744
      · rw [decide_eq_true (by omega), bad, if_pos (.inr ⟨rfl, c⟩)]
      · rw [decide_eq_false (by omega), if_neg (by omega)]
        exact good (fun _ => by omega)
  · rw [of_wrong n (by omega) (by omega)]
    simp only [Option.bind_some]
    rw [none_wrong]
    simp only [Option.bind_some]
    rw [if_pos True.intro, bad, if_pos (.inl (by omega))]
def partsF (n : Int) (a : Nat) : Bool × Int × Int × Int :=
  if kindF n a = 1 ∨ kindF n a = 2 then (negOf (fmtOf n) (wOf n a), magOf (fmtOf n) (rungOf (fmtOf n) (wOf n a)), (fmtOf n).leastPlace + (plOf (fmtOf n) (rungOf (fmtOf n) (wOf n a)) : Int), 0) else (false, 0, 0, 1)
theorem kind_ok (n : Int) (a : Nat) (h : kindF n a = 1 ∨ kindF n a = 2) : n = 32 ∨ n = 64 := by
  by_cases hn : n = 32 ∨ n = 64
  · exact hn
  · unfold kindF at h
    rw [if_pos (by omega)] at h
    omega
theorem kind_num {n p q f} (S : Sz n p q f) (a : Nat) (h : kindF n a = 1 ∨ kindF n a = 2) : rungOf f (wOf n (a : Int)) < f.infRung := by
  have hb := bin_ok S.pq
  have hB : 0 < f.binade := pw_pos _
  unfold kindF at h
  rw [if_neg (by have := S.ok; omega), S.fm] at h
  unfold nanW at h
  by_cases z : rungOf f (wOf n (a : Int)) = 0
  · omega
  · rw [if_neg z] at h
    by_cases g : f.infRung < rungOf f (wOf n (a : Int))
    · rw [if_pos (decide_eq_true g)] at h; omega
    · rw [if_neg (by rw [decide_eq_false g]; decide)] at h
      by_cases y : rungOf f (wOf n (a : Int)) = f.infRung
      · rw [if_pos y] at h; omega
      · omega
theorem c_Parts (n : Int) (a : Nat) (ha : a < 18446744073709551616) (k : Nat) (hk : 1 ≤ k) : floats_Parts.f k n a = some (partsF n a) := by
  obtain ⟨k, rfl⟩ : ∃ j, k = j + 1 := ⟨k - 1, by omega⟩
  unfold floats_Parts.f partsF
  rw [c_Kind n a ha]
  simp only [Option.bind_some]
  have bad : floats_Parts.j0 (k + 1) n a true = some (false, 0, 0, 1) := by
    simp only [floats_Parts.j0]; rw [if_pos True.intro]
  by_cases g : kindF n a = 1 ∨ kindF n a = 2
  · obtain ⟨p, q, f, S⟩ := sz n (kind_ok n a g)
    have good : floats_Parts.j0 (k + 1) n a false = some (negOf f (wOf n (a : Int)), (magOf f (rungOf f (wOf n (a : Int))) : Int), f.leastPlace + (plOf f (rungOf f (wOf n (a : Int))) : Int), 0) := by
      simp only [floats_Parts.j0]
      rw [if_neg Bool.false_ne_true, S.of]
      simp only [Option.bind_some]
      rw [c_parts S.pq a ha, c_neg S.pq a ha]
      simp only [Option.bind_some]
      rw [(S.same a ha).1, (S.same a ha).2]
    rw [if_pos g, S.fm]
    rcases g with g | g
    · rw [if_pos g]; exact good
    · rw [if_neg (by omega), show (kindF n a != 2) = false from by rw [g]; rfl]; exact good
  · rw [if_neg (by omega), if_neg g, show (kindF n a != 2) = true from bne_iff_ne.2 (by omega)]; exact bad
end Go.Proofs.YtjecdciabpjgcaaGreatDoor.Pure
namespace Go.Proofs.YtjecdciabpjgcaaGreatDoor.Lz
set_option linter.unusedVariables false
set_option linter.unusedSimpArgs false
open Go.RowKit Go.Proofs.YtjecdciabpjgcaaGreatDoorW.PrintWords Go.Proofs.YtjecdciabpjgcaaGreatDoor.Lx Go.Proofs.YtjecdciabpjgcaaGreatDoor.PLz
theorem round_c (bits : Int) (m : Nat) (hm : m < B64) (e : Int) (more : Bool) (r : Int × Int) (h : Pure.roundF bits false m e more = r) (w : World) :
    Calls Tryz.prog 37 #[.int .i64 bits, .bool false, .int .u64 (m : Int), .int .i64 e, .bool more] w fun x w' => x = .returned (.tuple #[.int .u64 r.1, .int .i64 r.2]) ∧ Below w.heap.size w w' :=
  floats_Round.calls 4 bits false (m : Int) e more r.1 r.2 w (by rw [Pure.c_Round bits false m hm e more 4 (Nat.le_refl _), h])
def tz (l : List UInt8) : List UInt8 := l.dropWhile (· == 48)
def anyN (l : List UInt8) : Bool := l.any (· != 48)
def numN (b : Nat) (l : List UInt8) : Nat := (numK b l 0).getD 0
theorem tz_suf (l : List UInt8) : tz l <:+ l := List.dropWhile_suffix _
theorem tz_any (l : List UInt8) : (tz l = []) ↔ anyN l = false := by
  unfold tz anyN
  induction l with
  | nil => simp
  | cons c l ih =>
    by_cases hc : c = 48
    · subst hc
      simpa using ih
    · simp [hc]
theorem trim_any (l : List UInt8) : (Lib.trimB l 48 = []) ↔ anyN l = false := by
  unfold Lib.trimB Lib.trimLeftB Lib.trimRightB
  have h1 := tz_any (List.dropWhile (· == 48) l.reverse).reverse
  unfold tz at h1
  rw [h1]
  have h2 := tz_any l.reverse
  unfold tz at h2
  have h3 : anyN l.reverse = anyN l := by unfold anyN; rw [List.any_reverse]
  rw [h3] at h2
  have h4 : anyN (List.dropWhile (· == 48) l.reverse).reverse = anyN (List.dropWhile (· == 48) l.reverse) := by unfold anyN; rw [List.any_reverse]
  rw [h4, ← h2]
  constructor
  · intro h
    cases hd : List.dropWhile (· == 48) l.reverse with
    | nil => rfl
    | cons c t =>
      have hc : (c == 48) = false := by
        have := List.head_dropWhile_not (fun x : UInt8 => x == 48) (l := l.reverse) (by rw [hd]; simp)
        simpa [hd] using this
      rw [hd] at h
      unfold anyN at h
      rw [List.any_cons] at h
      have : (c != 48) = true := by simp [bne, hc]
      rw [this] at h
      simp at h
  · intro h
    rw [h]
    rfl
theorem numK_16 (l : List UInt8) (hl : l.length ≤ 16) (hh : ∀ c ∈ l, ishex c = true) : ∃ n, numK 16 l 0 = some n ∧ n < B64 := by
  have key : ∀ (l : List UInt8) (n k : Nat), (∀ c ∈ l, ishex c = true) → k + l.length ≤ 16 → n < 16 ^ k → ∃ m, numK 16 l n = some m ∧ m < 16 ^ 16 := by
    intro l
    induction l with
    | nil =>
      intro n k _ hk hn
      refine ⟨n, rfl, Nat.lt_of_lt_of_le hn (Nat.pow_le_pow_right (by decide) (by simpa using hk))⟩
    | cons c t ih =>
      intro n k hh hk hn
      have hd := dval_lt c (hh c (by simp))
      have hk15 : k ≤ 15 := by simp at hk; omega
      have hn2 : n < 16 ^ 15 := Nat.lt_of_lt_of_le hn (Nat.pow_le_pow_right (by decide) hk15)
      rw [numK_cons, if_neg (by
        have : (16 : Nat) ^ 15 = 1152921504606846976 := by decide
        omega)]
      refine ih (n * 16 + dval c) (k + 1) (fun x hx => hh x (by simp [hx])) (by simp at hk; omega) ?_
      rw [Nat.pow_succ]
      omega
  obtain ⟨m, h1, h2⟩ := key l 0 0 hh (by omega) (by decide)
  exact ⟨m, h1, h2⟩
def binF (bits : Int) (l : List UInt8) (e : Int) : Int :=
  if 16 < (tz l).length then (Pure.roundF bits false (numN 16 ((tz l).take 16)) (e + 4 * (((tz l).length : Int) - 16)) (anyN ((tz l).drop 16))).1 else (Pure.roundF bits false (numN 16 (tz l)) e false).1
structure RdQ (w : World) (z : Int) (e : Ending) (w' : World) : Prop where mk ::
  (out : e = .returned (.int .u64 z) ∧ Below w.heap.size w w')
theorem arr_self (l : List UInt8) : (⟨l.toArray⟩ : ByteArray).data.toList = l := by simp
theorem ext_l (l : List UInt8) (n m : Nat) : (⟨l.toArray⟩ : ByteArray).extract n m = ⟨((l.drop n).take (m - n)).toArray⟩ := by
  have h2 : (⟨l.toArray⟩ : ByteArray).extract n m = ⟨((⟨l.toArray⟩ : ByteArray).extract n m).data.toList.toArray⟩ := rfl
  rw [h2, Lib.extract_data]
set_option maxRecDepth 1000000 in
set_option maxHeartbeats 4000000 in
theorem binary_c (bits : Int) (s : ByteArray) (e : Int) (hs : s.size ≤ 1000000) (hh : ∀ c ∈ s.data.toList, ishex c = true) (he1 : -1099511627776 ≤ e) (he2 : e ≤ 1099511627776) (w : World) :
    Calls Tryz.prog 64 #[.int .i64 bits, .string s, .int .i64 e] w (RdQ w (binF bits s.data.toList e)) := by
  have HTL := Lib.hid (fun w => Tryz.strings_TrimLeft_one s 48 (by decide) w)
  have hsuf := tz_suf s.data.toList
  obtain ⟨d, hd⟩ : ∃ d, tz s.data.toList = d := ⟨_, rfl⟩
  have hd2 : Lib.trimLeftB s.data.toList 48 = d := hd
  rw [hd2] at HTL
  unfold binF
  rw [hd] at hsuf ⊢
  have hdl : d.length ≤ 1000000 := by have := hsuf.length_le; rw [len_data] at this; omega
  have hdh : ∀ c ∈ d, ishex c = true := fun c hc => hh c (hsuf.mem hc)
  have hsz : (⟨d.toArray⟩ : ByteArray).size = d.length := size_arr d
  clear hd hd2 hsuf hh
  by_cases h16 : 16 < d.length
  · rw [if_pos h16]
    have htk : ∀ c ∈ d.take 16, ishex c = true := fun c hc => hdh c (List.mem_of_mem_take hc)
    obtain ⟨n, hn, hnB⟩ := numK_16 (d.take 16) (by rw [List.length_take]; omega) htk
    have hnn : numN 16 (d.take 16) = n := by unfold numN; rw [hn]; rfl
    rw [hnn]
    obtain ⟨r, hr⟩ : ∃ r, Pure.roundF bits false n (e + 4 * ((d.length : Int) - 16)) (anyN (d.drop 16)) = r := ⟨_, rfl⟩
    rw [hr]
    have HRD := Lib.hid (fun w => round_c bits n hnB _ _ r hr w)
    have e1 : (⟨d.toArray⟩ : ByteArray).extract 0 16 = ⟨(d.take 16).toArray⟩ := by
      have := ext_l d 0 16
      simpa using this
    have e2 : (⟨d.toArray⟩ : ByteArray).extract 16 d.length = ⟨(d.drop 16).toArray⟩ := by
      have := ext_l d 16 d.length
      rw [this]
      congr 2
      rw [List.take_of_length_le (by rw [List.length_drop]; omega)]
    have HNU := Lib.hid (fun w => number_c ⟨(d.take 16).toArray⟩ 16 (.inr rfl) (by rw [arr_self]; exact htk) (by rw [size_arr, List.length_take]; omega) w (some n) (by rw [arr_self]; exact hn))
    have HTR := Lib.hid (fun w => Tryz.strings_Trim_one ⟨(d.drop 16).toArray⟩ 48 (by decide) w (by rw [size_arr, List.length_drop]; omega))
    rw [arr_self] at HTR
    obtain ⟨tr, htr⟩ : ∃ tr, Lib.trimB (d.drop 16) 48 = tr := ⟨_, rfl⟩
    rw [htr] at HTR
    obtain ⟨an, han⟩ : ∃ an, anyN (d.drop 16) = an := ⟨_, rfl⟩
    have hany : tr.isEmpty = !an := by
      rw [← han]
      have h := trim_any (d.drop 16)
      rw [htr] at h
      cases hx : anyN (d.drop 16)
      · rw [h.2 hx]; rfl
      · cases htr2 : tr with
        | nil => rw [h.1 htr2] at hx; cases hx
        | cons c t => rfl
    rw [han] at HRD
    have h16' : 16 < (d.length : Int) := by omega
    have hdI : (d.length : Int) ≤ 1000000 := by omega
    have z1 : IntKind.i64.wrap (4 * ((d.length : Int) - 16)) = 4 * ((d.length : Int) - 16) := IntWalk.i64_in _ (by omega)
    have z2 : IntKind.i64.wrap (e + 4 * ((d.length : Int) - 16)) = e + 4 * ((d.length : Int) - 16) := IntWalk.i64_in _ (by omega)
    clear hnn hr hn hdh htk htr han h16 hdl
    go_enter Tryz.func64, Tryz.ntmps64
    go_wp2_with (go_at_call 99; refine (HTL.out _).mono ?_; rintro x w1 ⟨rfl, rfl⟩)
    refine (HTR.out _).mono ?_
    rintro x w2 ⟨rfl, hw⟩
    have HB1 : Hid (Below w1.heap.size w1 w2) := Lib.hid (by rcases hw with rfl | rfl; exact Below.refl _ _; exact below_drew (Below.refl _ _))
    clear hw HTR
    go_wp2_with (go_at_call 25; refine (HNU.out _).mono ?_; intro x w3 hq; obtain ⟨hx, hb⟩ := hq.out; subst hx; have HB2 := Lib.hid (below_step HB1.out hb); clear hq hb)
    refine (HRD.out _).mono ?_
    rintro x w4 ⟨rfl, hb⟩
    have HB3 := Lib.hid (below_step HB2.out hb)
    clear hb
    go_wp2
    go_ret
    exact ⟨rfl, HB3.out⟩
  · rw [if_neg h16]
    obtain ⟨n, hn, hnB⟩ := numK_16 d (by omega) hdh
    have hnn : numN 16 d = n := by unfold numN; rw [hn]; rfl
    rw [hnn]
    obtain ⟨r, hr⟩ : ∃ r, Pure.roundF bits false n e false = r := ⟨_, rfl⟩
    rw [hr]
    have HRD := Lib.hid (fun w => round_c bits n hnB _ _ r hr w)
    have HNU := Lib.hid (fun w => number_c ⟨d.toArray⟩ 16 (.inr rfl) (by rw [arr_self]; exact hdh) (by rw [size_arr]; omega) w (some n) (by rw [arr_self]; exact hn))
    have h16' : (d.length : Int) ≤ 16 := by omega
    clear hnn hr hn hdh h16
    go_enter Tryz.func64, Tryz.ntmps64
    go_wp2_with (first | (go_at_call 99; refine (HTL.out _).mono ?_; rintro x w1 ⟨rfl, rfl⟩) | (go_at_call 25; refine (HNU.out _).mono ?_; intro x w2 hq; obtain ⟨hx, hb⟩ := hq.out; subst hx; have HB2 := Lib.hid hb; clear hq hb) | (go_at_call 37; refine (HRD.out _).mono ?_; rintro x w3 ⟨rfl, hb⟩; have HB3 := Lib.hid (below_step HB2.out hb); clear hb))
    go_ret
    exact ⟨rfl, HB3.out⟩
end Go.Proofs.YtjecdciabpjgcaaGreatDoor.Lz
