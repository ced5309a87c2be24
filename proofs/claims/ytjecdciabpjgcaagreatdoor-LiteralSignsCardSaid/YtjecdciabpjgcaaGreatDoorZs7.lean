/-
  The walk of chapter 8's decimal. Condition: decimal digits, no more than 1000000 of them; an exponent between -2^40 and 2^40.
-/
import Derived.Lib.OthersKept
import Derived.Test.YtjecdciabpjgcaaGreatDoorZs0
import Derived.Test.YtjecdciabpjgcaaGreatDoorZs1
import Derived.Test.YtjecdciabpjgcaaGreatDoorZs2
import Derived.Test.YtjecdciabpjgcaaGreatDoorZs3
import Derived.Test.YtjecdciabpjgcaaGreatDoorZs4
import Derived.Test.YtjecdciabpjgcaaGreatDoorZs5
import Derived.Test.YtjecdciabpjgcaaGreatDoorZs6
namespace Go.Proofs.YtjecdciabpjgcaaGreatDoor.Lz
set_option linter.unusedVariables false
set_option linter.unusedSimpArgs false
open Go.RowKit Go.Proofs.YtjecdciabpjgcaaGreatDoorW.PrintWords Go.Proofs.YtjecdciabpjgcaaGreatDoor.Lx Go.Proofs.YtjecdciabpjgcaaGreatDoor.PLz
/-- The number of decimal digits behind n. -/
def numD : Nat → List UInt8 → Nat
  | n, [] => n
  | n, c :: t => numD (n * 10 + dval c) t
theorem numD_app : ∀ (l m : List UInt8) (n : Nat), numD n (l ++ m) = numD (numD n l) m
  | [], m, n => rfl
  | c :: t, m, n => numD_app t m _
def decD (d : List UInt8) (e : Int) : List UInt8 × Int :=
  if 820 < d.length then (d.take 820 ++ [if anyN (d.drop 820) = true then 49 else 48], e + ((d.length : Int) - 821)) else (d, e)
/-- A number, and one that it is parted by, each moved so that the quotient has 64 bits or so. -/
def decQ (bits : Int) (n : Nat) (m : Nat) : Int :=
  let b : Int := (nbits m : Int) + 63 - (nbits n : Int)
  let n2 := n * 2 ^ b.toNat
  let m2 := m * 2 ^ (-b).toNat
  (Pure.roundF bits false (n2 / m2) (-b) (decide (0 < n2 % m2))).1
def decF (bits : Int) (l : List UInt8) (e : Int) : Int :=
  let d := tz l
  if d = [] ∨ (d.length : Int) + e < -400 then 0
  else if 400 < (d.length : Int) + e then (Pure.roundF bits false 1 4000 false).1
  else decQ bits (numD 0 (decD d e).1 * 10 ^ (decD d e).2.toNat) (10 ^ (-(decD d e).2).toNat)
theorem LR.iterAt {W : World} {v : Value} {l : List Nat} {k : Nat} {s : ByteArray} {pos : Nat} (h : LR W v l) (hk : W.heap[k]? = some (.stringIter s pos)) (p : Nat) : LR (W.iterAt k s p) v l := by
  obtain ⟨A, c, h1, h2, h3, h4, h5⟩ := h.out
  refine ⟨A, c, h1, h2, h3, h4, fun hn => ?_⟩
  obtain ⟨ad, hA, hc⟩ := h5 hn
  refine ⟨ad, hA, fun j hj => ?_⟩
  have hcell := hc j hj
  have hne : (ad.add j).block ≠ k := by
    intro e
    unfold World.cell? at hcell
    rw [e, hk] at hcell
    cases hcell
  unfold World.cell? at hcell ⊢
  rw [Lib.iterAt_other _ _ _ _ _ hne]
  exact hcell
theorem gr_len (B y : Nat) : ∀ (l : List Nat) (m : Nat), (gr B l y m).length ≤ l.length + 1
  | [], m => by show (if 0 < m then [m] else []).length ≤ _; split <;> simp
  | x :: t, m => by
    have := gr_len B y t ((x * y + m) / B)
    show (gr B t y ((x * y + m) / B)).length + 1 ≤ t.length + 1 + 1
    omega
theorem wds_grow (n y m : Nat) (hy0 : 0 < y) (hy : y < B64) (hm : m < B64) : (wds B64 (n * y + m)).length ≤ (wds B64 n).length + 1 := by
  rw [← gr_wds B64 y B64_2 hy0 hy n m hm]
  exact gr_len _ _ _ _
structure LxW (W : World) (v : Value) (n k : Nat) : Prop where mk ::
  (out : LW W v n) (len : (wds B64 n).length ≤ k)
def D1R (w W : World) (k : Nat) (s : ByteArray) (v11 : Value) (wr : World) : Prop :=
  ∃ pos : Nat, pos ≤ s.size ∧ wr.heap[k]? = some (.stringIter s pos) ∧ LxW wr v11 (numD 0 (s.data.toList.take pos)) pos ∧ Below w.heap.size w wr ∧ Below k W wr
def posOf (k : Nat) (w : World) : Nat := match w.heap[k]? with | some (.stringIter _ p) => p | _ => 0
def D2R (w W : World) (n0 l0 : Nat) (N : Nat) (v11 v70 : Value) (wr : World) : Prop :=
  ∃ i : Nat, v70 = .int .i64 (i : Int) ∧ i ≤ N ∧ LxW wr v11 (n0 * 10 ^ i) (l0 + i) ∧ Below w.heap.size w wr ∧ Below W.heap.size W wr
theorem decD_b (d : List UInt8) (e : Int) (h1 : -400 ≤ (d.length : Int) + e) (h2 : (d.length : Int) + e ≤ 400) (hd : ∀ c ∈ d, isdec c = true) :
    (decD d e).1.length ≤ 821 ∧ -1221 ≤ (decD d e).2 ∧ (decD d e).2 ≤ 400 ∧ ∀ c ∈ (decD d e).1, isdec c = true := by
  unfold decD
  split
  · refine ⟨by simp; omega, by simp only; omega, by simp only; omega, fun c hc => ?_⟩
    rcases List.mem_append.1 hc with hc | hc
    · exact hd c (List.mem_of_mem_take hc)
    · have : c = (if anyN (d.drop 820) = true then 49 else 48) := by simpa using hc
      rw [this]
      split <;> decide
  · exact ⟨by simp only; omega, by simp only; omega, by simp only; omega, hd⟩
theorem dec_hex (c : UInt8) (h : isdec c = true) : (48 ≤ c.toNat ∧ c.toNat ≤ 57 ∧ dval c = c.toNat - 48) := by
  have : ∀ n : Fin 256, isdec n.val.toUInt8 = true → (48 ≤ n.val ∧ n.val ≤ 57 ∧ dval n.val.toUInt8 = n.val - 48) := by decide +kernel
  have := this ⟨c.toNat, c.toNat_lt⟩
  simpa using this (by simpa using h)
theorem wds_len_dbl (n : Nat) : ∀ k, (wds B64 (n * 2 ^ k)).length ≤ (wds B64 n).length + k
  | 0 => by simp
  | k + 1 => by
    have ih := wds_len_dbl n k
    have h := wds_grow (n * 2 ^ k) 2 0 (by decide) (by decide) (by decide)
    have e : 2 ^ k * 2 = 2 ^ (k + 1) := rfl
    rw [Nat.add_zero, Nat.mul_assoc, e] at h
    omega
theorem nbits_le (n : Nat) : nbits n ≤ 64 * (wds B64 n).length := by
  rcases Nat.eq_zero_or_pos n with h0 | h0
  · rw [h0]; simp [nbits]
  · obtain ⟨l, x, hl, hx⟩ := wds_last B64 B64_2 n h0
    have hxB : x < B64 := wds_lt B64 B64_2 n x (by rw [hl]; simp)
    rw [bits_of n l x hl hx, hl, List.length_append, List.length_singleton]
    have : x.log2 < 64 := (Nat.log2_lt (by omega)).2 (by unfold B64 at hxB; omega)
    omega
theorem nbits_lt (n : Nat) : n < 2 ^ nbits n := by
  unfold nbits
  split
  · rename_i h; rw [h]; decide
  · exact Nat.lt_log2_self
theorem nbits_ge (n : Nat) (h : 0 < n) : 2 ^ (nbits n - 1) ≤ n ∧ 1 ≤ nbits n := by
  unfold nbits
  rw [if_neg (by omega)]
  exact ⟨by rw [Nat.add_sub_cancel]; exact Nat.log2_self_le (by omega), by omega⟩
theorem quot_fits (n m : Nat) (hm : 0 < m) (b : Int) (hb : b = (nbits m : Int) + 63 - (nbits n : Int)) : n * 2 ^ b.toNat < m * 2 ^ (-b).toNat * B64 := by
  have h1 := nbits_lt n
  obtain ⟨h2, h3⟩ := nbits_ge m hm
  have e : B64 = 2 ^ 64 := by decide
  have h4 : n * 2 ^ b.toNat < 2 ^ (nbits n + b.toNat) := by
    rw [Nat.pow_add]
    exact Nat.mul_lt_mul_of_pos_right h1 (Nat.pow_pos (by decide))
  have h5 : 2 ^ (nbits m - 1 + (-b).toNat + 64) ≤ m * 2 ^ (-b).toNat * B64 := by
    rw [Nat.pow_add, Nat.pow_add, e]
    exact Nat.mul_le_mul_right _ (Nat.mul_le_mul_right _ h2)
  have h6 : nbits n + b.toNat = nbits m - 1 + (-b).toNat + 64 := by omega
  rw [h6] at h4
  omega
theorem ten_pow (n i : Nat) : n * 10 ^ i * 10 + 0 = n * 10 ^ (i + 1) := by rw [Nat.pow_succ, Nat.add_zero, Nat.mul_assoc]
set_option maxRecDepth 1000000 in
set_option maxHeartbeats 16000000 in
theorem decimal_c (bits : Int) (s : ByteArray) (e : Int) (hs : s.size ≤ 1000000) (hh : ∀ c ∈ s.data.toList, isdec c = true) (he1 : -1099511627776 ≤ e) (he2 : e ≤ 1099511627776) (w : World) :
    Calls Tryz.prog 65 #[.int .i64 bits, .string s, .int .i64 e] w (RdQ w (decF bits s.data.toList e)) := by
  have HTL := Lib.hid (fun w => Tryz.strings_TrimLeft_one s 48 (by decide) w)
  have hsuf := tz_suf s.data.toList
  obtain ⟨Z, hZ⟩ : ∃ Z, decF bits s.data.toList e = Z := ⟨_, rfl⟩
  rw [hZ]
  unfold decF at hZ
  obtain ⟨d, hd⟩ : ∃ d, tz s.data.toList = d := ⟨_, rfl⟩
  have hd2 : Lib.trimLeftB s.data.toList 48 = d := hd
  rw [hd2] at HTL
  rw [hd] at hsuf hZ
  have hdl : (d.length : Int) ≤ 1000000 := by have := hsuf.length_le; rw [len_data] at this; omega
  have hdh : ∀ c ∈ d, isdec c = true := fun c hc => hh c (hsuf.mem hc)
  have hsz : (⟨d.toArray⟩ : ByteArray).size = d.length := size_arr d
  clear hd hd2 hsuf hh
  simp only at hZ
  by_cases hd0 : d = []
  · rw [if_pos (.inl hd0)] at hZ
    have HZ := Lib.hid hZ
    subst hd0
    clear hZ hdh
    go_enter Tryz.func65, Tryz.ntmps65
    go_wp2_with (go_at_call 99; refine (HTL.out _).mono ?_; rintro x w1 ⟨rfl, rfl⟩)
    go_ret
    exact ⟨by rw [← HZ.out]; rfl, Below.refl _ _⟩
  · have hne : d.isEmpty = false := by cases d with | nil => exact absurd rfl hd0 | cons c t => rfl
    by_cases hf1 : (d.length : Int) + e < -400
    · rw [if_pos (.inr hf1)] at hZ
      have HZ := Lib.hid hZ
      clear hZ hdh hd0
      go_enter Tryz.func65, Tryz.ntmps65
      go_wp2_with (go_at_call 99; refine (HTL.out _).mono ?_; rintro x w1 ⟨rfl, rfl⟩)
      go_ret
      exact ⟨by rw [← HZ.out]; rfl, Below.refl _ _⟩
    · rw [if_neg (fun h => by rcases h with h | h; exact hd0 h; exact hf1 h)] at hZ
      have hf1' : -400 ≤ (d.length : Int) + e := by omega
      by_cases hf2 : 400 < (d.length : Int) + e
      · rw [if_pos hf2] at hZ
        obtain ⟨r, hr⟩ : ∃ r, Pure.roundF bits false 1 4000 false = r := ⟨_, rfl⟩
        rw [hr] at hZ
        have HRD := Lib.hid (fun w => round_c bits 1 (by decide) _ _ r hr w)
        have hz1 : ((1 : Nat) : Int) = 1 := rfl
        rw [hz1] at HRD
        have HZ := Lib.hid hZ
        clear hZ hdh hd0 hr hz1
        go_enter Tryz.func65, Tryz.ntmps65
        go_wp2_with (first | (go_at_call 99; refine (HTL.out _).mono ?_; rintro x w1 ⟨rfl, rfl⟩) | (go_at_call 37; refine (HRD.out _).mono ?_; rintro x w4 ⟨rfl, hb⟩; have HB3 := Lib.hid hb; clear hb))
        go_ret
        exact ⟨by rw [← HZ.out]; rfl, HB3.out⟩
      · rw [if_neg hf2] at hZ
        have hf2' : (d.length : Int) + e ≤ 400 := by omega
        obtain ⟨b1, b2, b3, b4⟩ := decD_b d e hf1' hf2' hdh
        have HZ := Lib.hid hZ
        obtain ⟨D, hD⟩ : ∃ D, (decD d e).1 = D := ⟨_, rfl⟩
        obtain ⟨E, hE⟩ : ∃ E, (decD d e).2 = E := ⟨_, rfl⟩
        have HDE : Hid (decD d e = (D, E)) := Lib.hid (by rw [← hD, ← hE])
        rw [hD] at b1 b4 HZ
        rw [hE] at b2 b3 HZ
        clear hZ hdh hd0 hD hE hf1 hf2
        go_enter Tryz.func65, Tryz.ntmps65
        go_upto_if 44 with (go_at_call 99; refine (HTL.out _).mono ?_; rintro x w1 ⟨rfl, rfl⟩)
        go_cut [1, 2] (fun v1 v2 wc => v1 = .string ⟨D.toArray⟩ ∧ v2 = .int .i64 E ∧ Below w1.heap.size w1 wc)
        case first =>
          have hDE := HDE.out
          unfold decD at hDE
          by_cases h820 : 820 < d.length
          · have h820' : 820 < (d.length : Int) := by omega
            rw [if_pos h820] at hDE
            have e1 : (⟨d.toArray⟩ : ByteArray).extract 820 d.length = ⟨(d.drop 820).toArray⟩ := by
              rw [ext_l]
              congr 2
              rw [List.take_of_length_le (by rw [List.length_drop]; omega)]
            have e2 : (⟨d.toArray⟩ : ByteArray).extract 0 820 = ⟨(d.take 820).toArray⟩ := by
              rw [ext_l]
              rfl
            have HTR := Lib.hid (fun w => Tryz.strings_Trim_one ⟨(d.drop 820).toArray⟩ 48 (by decide) w (by rw [size_arr, List.length_drop]; omega))
            rw [arr_self] at HTR
            obtain ⟨tr, htr⟩ : ∃ tr, Lib.trimB (d.drop 820) 48 = tr := ⟨_, rfl⟩
            rw [htr] at HTR
            have hany := trim_any (d.drop 820)
            rw [htr] at hany
            have hs3 : (⟨(d.take 820).toArray⟩ : ByteArray).size = 820 := by rw [size_arr, List.length_take]; omega
            have HE2 : Hid (e + ((d.length : Int) - 821) = E) := Lib.hid (congrArg Prod.snd hDE)
            have hD2 : d.take 820 ++ [if anyN (d.drop 820) = true then 49 else 48] = D := congrArg Prod.fst hDE
            cases han : anyN (d.drop 820)
            · have htre : tr.isEmpty = true := by rw [hany.2 han]; rfl
              have happ : (⟨(d.take 820).toArray⟩ : ByteArray) ++ ⟨#[48]⟩ = ⟨D.toArray⟩ := by
                rw [← hD2, han]
                apply ByteArray.ext
                simp
              clear hDE hD2 han hany htr h820
              go_wp2_with fail
              refine (HTR.out _).mono ?_
              rintro x w2 ⟨rfl, hw⟩
              have HB1 : Hid (Below w1.heap.size w1 w2) := Lib.hid (by rcases hw with rfl | rfl; exact Below.refl _ _; exact below_drew (Below.refl _ _))
              clear hw HTR
              go_wp2
              go_meet
              case rel => exact ⟨rfl, by rw [HE2.out], HB1.out⟩
            · have htre : tr.isEmpty = false := by
                cases htr2 : tr with
                | nil => rw [hany.1 htr2] at han; cases han
                | cons c t => rfl
              have happ : (⟨(d.take 820).toArray⟩ : ByteArray) ++ ⟨#[49]⟩ = ⟨D.toArray⟩ := by
                rw [← hD2, han]
                apply ByteArray.ext
                simp
              clear hDE hD2 han hany htr h820
              go_wp2_with fail
              refine (HTR.out _).mono ?_
              rintro x w2 ⟨rfl, hw⟩
              have HB1 : Hid (Below w1.heap.size w1 w2) := Lib.hid (by rcases hw with rfl | rfl; exact Below.refl _ _; exact below_drew (Below.refl _ _))
              clear hw HTR
              go_wp2
              go_meet
              case rel => exact ⟨rfl, by rw [HE2.out], HB1.out⟩
          · have h820' : (d.length : Int) ≤ 820 := by omega
            rw [if_neg h820] at hDE
            have h1 : d = D := congrArg Prod.fst hDE
            have h2 : e = E := congrArg Prod.snd hDE
            have HE1 := Lib.hid h1
            have HE2 := Lib.hid h2
            clear hDE h1 h2 h820
            go_wp2
            go_meet
            case rel => exact ⟨by rw [HE1.out], by rw [HE2.out], Below.refl _ _⟩
        case rest =>
          obtain ⟨rfl, rfl, hbc⟩ := hcut
          have HB0 := Lib.hid hbc
          clear hbc HDE HTL hdl hsz hne hf1' hf2'
          go_wp2
          obtain ⟨W, hW⟩ : ∃ W, W = (wc.alloc (Obj.cells #[] 23)).alloc (Obj.cells #[.int .u64 1] 23) := ⟨_, rfl⟩
          have hWs : W.heap.size = wc.heap.size + 1 + 1 := by rw [hW]; simp
          rw [← hW]
          obtain ⟨k, hk⟩ : ∃ k, k = wc.heap.size + 1 + 1 := ⟨_, rfl⟩
          rw [← hk]
          have HKW : Hid (W.heap.size = k) := Lib.hid (by rw [hWs, hk])
          have HBW : Hid (Below w1.heap.size w1 W) := Lib.hid (by rw [hW]; exact (HB0.out.alloc HB0.out.size _).alloc (HB0.out.alloc HB0.out.size _).size _)
          have HK1 : Hid (w1.heap.size ≤ k) := Lib.hid (by rw [hk]; have := HB0.out.size; omega)
          have hw0 : wds B64 0 = [] := wds_zero B64
          have hw1 : wds B64 1 = [1] := by rw [wds_pos B64 1 B64_2 (by decide)]; rw [show (1 : Nat) / B64 = 0 by decide, wds_zero]; rfl
          have HL0 : Hid (LxW W (.slice (some ⟨wc.heap.size, 0, none⟩) 0 0) 0 0) := Lib.hid ⟨⟨some ⟨wc.heap.size, 0, none⟩, 0, by rw [hw0]; rfl, by rw [hw0]; exact Nat.le_refl _, by rw [hw0]; exact ⟨rfl, by simp, fun h => absurd h (by simp)⟩⟩, by rw [hw0]; exact Nat.le_refl _⟩
          have HL1 : Hid (LxW W (.slice (some ⟨wc.heap.size + 1, 0, none⟩) 1 1) 1 1) := Lib.hid ⟨by
            unfold LW
            rw [hw1]
            have h := lit1w (wc.alloc (Obj.cells #[] 23)) 1
            have hs1 : (wc.alloc (Obj.cells #[] 23)).heap.size = wc.heap.size + 1 := by simp
            rw [hs1] at h
            rw [hW]
            exact ⟨_, _, rfl, Nat.le_refl _, h⟩, by rw [hw1]; exact Nat.le_refl _⟩
          obtain ⟨v0, hv0⟩ : ∃ v, v = Value.slice (some ⟨wc.heap.size, 0, none⟩) 0 0 := ⟨_, rfl⟩
          obtain ⟨v1, hv1⟩ : ∃ v, v = Value.slice (some ⟨wc.heap.size + 1, 0, none⟩) 1 1 := ⟨_, rfl⟩
          rw [← hv0] at HL0 ⊢
          rw [← hv1] at HL1 ⊢
          obtain ⟨S, hS⟩ : ∃ S : ByteArray, S = ⟨D.toArray⟩ := ⟨_, rfl⟩
          have HSD : Hid (S.data.toList = D) := Lib.hid (by rw [hS, arr_self])
          have HSS : Hid (S.size = D.length) := Lib.hid (by rw [hS, size_arr])
          have HDH := Lib.hid b4
          rw [← hS]
          have HA : Hid (D1R w1 W k S v0 (W.iter S 0)) := Lib.hid ⟨0, Nat.zero_le _, by rw [← HKW.out]; exact World.iter_heap _ _ _, ⟨HL0.out.out.below (iter_bel _ _ _), HL0.out.len⟩, below_step HBW.out (iter_bel _ _ _), by rw [← HKW.out]; exact iter_bel _ _ _⟩
          have HD821 := Lib.hid b1
          clear hW hWs hk hw0 hw1 hv0 hv1 hS b4 b1 HL0 HB0
          go_loopw [11] (D1R w1 W k S) (fun _ wr => S.size - posOf k wr)
          case atStart => exact HA.out
          case round =>
            obtain ⟨pos, hps, hkk, hL, hb, hbk⟩ := hrel
            have HK := Lib.hid hkk
            have HL := Lib.hid hL
            have HB := Lib.hid hb
            have HBK := Lib.hid hbk
            have hmeas : posOf k wr = pos := by unfold posOf; rw [hkk]
            clear hkk hL hb hbk HA
            by_cases hp : pos < S.size
            · have hdr := drop_at S pos hp
              have hmem : S[pos] ∈ D := by
                rw [← HSD.out]
                exact List.mem_of_mem_drop (i := pos) (by rw [hdr]; exact List.mem_cons_self)
              obtain ⟨c1, c2, c3⟩ := dec_hex _ (HDH.out _ hmem)
              have hnx : ∀ ty, (Instr.next (.pointer (some ⟨k, 0, none⟩)) true ty).run Tryz.prog wr = _ := fun ty => Lib.run_next_ascii_at wr k S pos ty HK.out hp (by omega)
              have HV := Lib.hid (fun w => value_c S[pos].toNat (dval S[pos]) w (.inl ⟨c1, c2, c3⟩))
              have htk : numD 0 (S.data.toList.take (pos + 1)) = numD 0 (S.data.toList.take pos) * 10 + dval S[pos] := by
                have : S.data.toList.take (pos + 1) = S.data.toList.take pos ++ [S[pos]] := by
                  rw [List.take_add_one]
                  congr 1
                  have h := hdr
                  have hl : pos < S.data.toList.length := by rw [len_data]; exact hp
                  rw [List.drop_eq_getElem_cons hl] at h
                  rw [List.getElem?_eq_getElem hl, (List.cons.inj h).1]
                  rfl
                rw [this, numD_app]
                rfl
              obtain ⟨num, hnum⟩ : ∃ num, numD 0 (S.data.toList.take pos) = num := ⟨_, rfl⟩
              rw [hnum] at HL htk
              obtain ⟨x, hx⟩ : ∃ x, S[pos].toNat = x := ⟨_, rfl⟩
              obtain ⟨dd, hdd⟩ : ∃ dd, dval S[pos] = dd := ⟨_, rfl⟩
              rw [hx, hdd] at HV
              rw [hx] at hnx c1 c2
              rw [hdd] at htk
              have hdd10 : dd < 10 := by rw [← hdd, c3]; omega
              obtain ⟨Wi, hWi⟩ : ∃ Wi, wr.iterAt k S (pos + 1) = Wi := ⟨_, rfl⟩
              rw [hWi] at hnx
              have HLi : Hid (LW Wi u11 num) := Lib.hid (by rw [← hWi]; exact HL.out.out.iterAt HK.out _)
              have HKi : Hid (Wi.heap[k]? = some (.stringIter S (pos + 1))) := Lib.hid (by rw [← hWi]; exact Lib.iterAt_heap wr k S pos _ HK.out)
              have HBi : Hid (Below w1.heap.size w1 Wi) := Lib.hid (by rw [← hWi]; exact Lib.below_iterAt HB.out HK1.out S _)
              have HBKi : Hid (Below k W Wi) := Lib.hid (by rw [← hWi]; exact Lib.below_iterAt HBK.out (Nat.le_refl _) S _)
              have hB821 : num * 0 = 0 := by omega
              have HGR := Lib.hid (fun w h => grown_c num 10 dd (by decide) (by decide) (Nat.lt_trans hdd10 (by decide)) (by have := HL.out.len; have := HD821.out; have := HSS.out; omega) u11 w h)
              have HLN : Hid ((wds B64 (num * 10 + dd)).length ≤ pos + 1) := Lib.hid (Nat.le_trans (wds_grow num 10 dd (by decide) (by decide) (Nat.lt_trans hdd10 (by decide))) (by have := HL.out.len; omega))
              have HTK := Lib.hid htk
              have hz10 : ((10 : Nat) : Int) = 10 := rfl
              rw [hz10] at HGR
              clear hdr hmem c1 c2 c3 htk hnum hx hdd hWi hB821 hz10 hdd10
              go_wp2_with (first | (go_at_call 61; refine (HV.out _).mono ?_; rintro x w' ⟨rfl, rfl⟩) | (go_at_call 101; refine (HGR.out _ HLi.out).mono ?_; intro x w3 hq; obtain ⟨v, hx, hv, hb⟩ := hq.out; subst hx; have HV3 := Lib.hid hv; have HB3 := Lib.hid (below_step HBi.out hb); have HK3 := Lib.hid ((hb.block k (blk_lt HKi.out)).trans HKi.out); have HBK3 := Lib.hid (HBKi.out.trans (hb.mono (Nat.le_of_lt (blk_lt HKi.out)))); clear hq hv hb))
              go_roundw
              case rel => exact ⟨pos + 1, by omega, HK3.out, ⟨by rw [HTK.out]; exact HV3.out, by rw [HTK.out]; exact HLN.out⟩, HB3.out, HBK3.out⟩
              case measure =>
                have : posOf k w3 = pos + 1 := by unfold posOf; rw [HK3.out]
                rw [hmeas, this]
                omega
            · have hpe : pos = S.size := by omega
              have hnx : ∀ ty, (Instr.next (.pointer (some ⟨k, 0, none⟩)) true ty).run Tryz.prog wr = _ := fun ty => Lib.run_next_end_at wr k S pos ty HK.out hp
              obtain ⟨n0, hn0⟩ : ∃ n0, numD 0 D = n0 := ⟨_, rfl⟩
              rw [hn0] at HZ
              have HL2 : Hid (LxW wr u11 n0 821) := Lib.hid (by
                have h := HL.out
                have e : numD 0 (S.data.toList.take pos) = n0 := by
                  rw [hpe, List.take_of_length_le (by rw [len_data]; exact Nat.le_refl _), HSD.out, hn0]
                rw [e] at h
                exact ⟨h.out, Nat.le_trans h.len (by have := HD821.out; have := HSS.out; omega)⟩)
              have HL1r : Hid (LxW wr v1 1 1) := Lib.hid ⟨HL1.out.out.below (by rw [HKW.out]; exact HBK.out), HL1.out.len⟩
              have hET : 0 < E → (E.toNat : Int) = E := fun h => by omega
              have hET2 : ¬ 0 < E → E.toNat = 0 := fun h => by omega
              have HA2 : Hid (D2R w1 wr n0 821 E.toNat u11 (.int .i64 0) wr) := Lib.hid ⟨0, rfl, Nat.zero_le _, ⟨by rw [Nat.pow_zero, Nat.mul_one]; exact HL2.out.out, by rw [Nat.pow_zero, Nat.mul_one]; exact HL2.out.len⟩, HB.out, Below.refl _ _⟩
              obtain ⟨wa, hwa⟩ : ∃ x, x = wr := ⟨_, rfl⟩
              subst hwa
              clear hpe hn0 hp hmeas HL2 HL1 HK HL HB HBK HKW HBW HK1 HSD HDH HD821 HSS
              go_wp2
              clear hnx
              go_loopw [11, 70] (D2R w1 wa n0 821 E.toNat) (fun _ v70 _ => E.toNat - numV v70)
              case atStart => exact HA2.out
              case round =>
                obtain ⟨i, rfl, hi, hL, hb, hbk⟩ := hrel
                have HL := Lib.hid hL
                have HB := Lib.hid hb
                have HBK := Lib.hid hbk
                have hi0 : 0 ≤ (i : Int) := by omega
                clear hL hb hbk HA2
                by_cases hlt : (i : Int) < E
                · have HGR := Lib.hid (fun w h => grown_c (n0 * 10 ^ i) 10 0 (by decide) (by decide) (by decide) (by have := HL.out.len; omega) u11 w h)
                  have HLN : Hid ((wds B64 (n0 * 10 ^ i * 10 + 0)).length ≤ 821 + (i + 1)) := Lib.hid (Nat.le_trans (wds_grow _ 10 0 (by decide) (by decide) (by decide)) (by have := HL.out.len; omega))
                  rw [ten_pow] at HGR HLN
                  have hz10 : ((10 : Nat) : Int) = 10 := rfl
                  have hz0 : ((0 : Nat) : Int) = 0 := rfl
                  rw [hz10, hz0] at HGR
                  clear hz10 hz0
                  go_wp2_with (go_at_call 101; refine (HGR.out _ HL.out.out).mono ?_; intro x w3 hq; obtain ⟨v, hx, hv, hb⟩ := hq.out; subst hx; have HV3 := Lib.hid hv; have HB3 := Lib.hid (below_step HB.out hb); have HBK3 := Lib.hid (below_step HBK.out hb); clear hq hv hb)
                  go_roundw
                  case rel => exact ⟨i + 1, by push_cast; rfl, by omega, ⟨HV3.out, HLN.out⟩, HB3.out, HBK3.out⟩
                  case measure => simp only [numV]; omega
                · have hiN : i = E.toNat := by omega
                  obtain ⟨n1, hn1⟩ : ∃ n1, n0 * 10 ^ E.toNat = n1 := ⟨_, rfl⟩
                  rw [hn1] at HZ
                  have HLn : Hid (LxW wr u11 n1 1221) := Lib.hid (by
                    have h := HL.out
                    rw [hiN, hn1] at h
                    exact ⟨h.out, Nat.le_trans h.len (by omega)⟩)
                  have HL1s : Hid (LxW wr v1 1 1) := Lib.hid ⟨HL1r.out.out.below HBK.out, HL1r.out.len⟩
                  have HA3 : Hid (D2R w1 wr 1 1 (-E).toNat v1 (.int .i64 0) wr) := Lib.hid ⟨0, rfl, Nat.zero_le _, ⟨HL1s.out.out, HL1s.out.len⟩, HB.out, Below.refl _ _⟩
                  obtain ⟨wb, hwb⟩ : ∃ x, x = wr := ⟨_, rfl⟩
                  subst hwb
                  have hlt' : E ≤ (i : Int) := by omega
                  clear hiN hn1 HL HL1r HL1s HBK hlt hET hET2
                  go_wp2
                  go_loopw [12, 77] (D2R w1 wb 1 1 (-E).toNat) (fun _ v77 _ => (-E).toNat - numV v77)
                  case atStart => exact HA3.out
                  case round =>
                    obtain ⟨j, rfl, hj, hL, hb, hbk⟩ := hrel
                    have HL := Lib.hid hL
                    have HB := Lib.hid hb
                    have HBK := Lib.hid hbk
                    have hj0 : 0 ≤ (j : Int) := by omega
                    clear hL hb hbk HA3
                    by_cases hltj : (j : Int) < -E
                    · have HGR := Lib.hid (fun w h => grown_c (1 * 10 ^ j) 10 0 (by decide) (by decide) (by decide) (by have := HL.out.len; omega) u12 w h)
                      have HLN : Hid ((wds B64 (1 * 10 ^ j * 10 + 0)).length ≤ 1 + (j + 1)) := Lib.hid (Nat.le_trans (wds_grow _ 10 0 (by decide) (by decide) (by decide)) (by have := HL.out.len; omega))
                      rw [ten_pow] at HGR HLN
                      have hz10 : ((10 : Nat) : Int) = 10 := rfl
                      have hz0 : ((0 : Nat) : Int) = 0 := rfl
                      rw [hz10, hz0] at HGR
                      clear hz10 hz0
                      go_wp2_with (go_at_call 101; refine (HGR.out _ HL.out.out).mono ?_; intro x w3 hq; obtain ⟨v, hx, hv, hb⟩ := hq.out; subst hx; have HV3 := Lib.hid hv; have HB3 := Lib.hid (below_step HB.out hb); have HBK3 := Lib.hid (below_step HBK.out hb); clear hq hv hb)
                      go_roundw
                      case rel => exact ⟨j + 1, by push_cast; rfl, by omega, ⟨HV3.out, HLN.out⟩, HB3.out, HBK3.out⟩
                      case measure => simp only [numV]; omega
                    · have hjN : j = (-E).toNat := by omega
                      obtain ⟨m1, hm1⟩ : ∃ m1, 10 ^ (-E).toNat = m1 := ⟨_, rfl⟩
                      have hm0 : 0 < m1 := by rw [← hm1]; exact Nat.pow_pos (by decide)
                      rw [hm1] at HZ
                      have HLd : Hid (LxW wr u12 m1 1222) := Lib.hid (by
                        have h := HL.out
                        rw [hjN, hm1, Nat.one_mul] at h
                        exact ⟨h.out, Nat.le_trans h.len (by omega)⟩)
                      have HLn2 : Hid (LxW wr u11 n1 1221) := Lib.hid ⟨HLn.out.out.below HBK.out, HLn.out.len⟩
                      have HT1 := Lib.hid (fun w h => bits_c m1 (by have := HLd.out.len; omega) u12 w h)
                      have HT2 := Lib.hid (fun w h => bits_c n1 (by have := HLn2.out.len; omega) u11 w h)
                      have hb1 : (nbits m1 : Int) ≤ 100000 := by have := nbits_le m1; have := HLd.out.len; omega
                      have hb2 : (nbits n1 : Int) ≤ 100000 := by have := nbits_le n1; have := HLn2.out.len; omega
                      have hge : -E ≤ (j : Int) := by omega
                      obtain ⟨b, hb⟩ : ∃ b : Int, b = (nbits m1 : Int) + 63 - (nbits n1 : Int) := ⟨_, rfl⟩
                      have hfit := quot_fits n1 m1 hm0 b hb
                      have hZ2 := HZ.out
                      unfold decQ at hZ2
                      simp only at hZ2
                      rw [← hb] at hZ2
                      obtain ⟨x1, hx1⟩ : ∃ x1, nbits m1 = x1 := ⟨_, rfl⟩
                      obtain ⟨x2, hx2⟩ : ∃ x2, nbits n1 = x2 := ⟨_, rfl⟩
                      rw [hx1] at HT1 hb1 hb
                      rw [hx2] at HT2 hb2 hb
                      have hbl1 : -200000 ≤ b := by omega
                      have hbl2 : b ≤ 200000 := by omega
                      have hwb : IntKind.i64.wrap ((x1 : Int) + 63 - (x2 : Int)) = b := by rw [hb]; exact IntWalk.i64_in _ (by omega)
                      have hwb2 : (x1 : Int) + 63 - (x2 : Int) = b := hb.symm
                      have hwn : IntKind.i64.wrap (-b) = -b := IntWalk.i64_in _ (by omega)
                      clear hjN hm1 HL HLn HZ HBK hltj hx1 hx2 hb
                      by_cases hbp : 0 < b
                      · obtain ⟨B, hB⟩ : ∃ B, b.toNat = B := ⟨_, rfl⟩
                        have hbB : (B : Int) = b := by omega
                        have hnb : (-b).toNat = 0 := by omega
                        have hB2 : B ≤ 200000 := by omega
                        rw [hB, hnb, Nat.pow_zero, Nat.mul_one] at hfit hZ2
                        have HLF := Lib.hid (fun w h => left_c n1 B (by omega) (by have := HLn2.out.len; omega) u11 w h)
                        rw [hbB] at HLF
                        obtain ⟨n2, hn2⟩ : ∃ n2, n1 * 2 ^ B = n2 := ⟨_, rfl⟩
                        have hlen2 : (wds B64 n2).length ≤ 300000 := by rw [← hn2]; have := wds_len_dbl n1 B; have := HLn2.out.len; omega
                        rw [hn2] at HLF hfit hZ2
                        have hQB : n2 / m1 < B64 := (Nat.div_lt_iff_lt_mul hm0).2 (by rw [Nat.mul_comm]; exact hfit)
                        have HQT := Lib.hid (fun v w h1 h2 => quot_c n2 m1 hm0 hfit (by omega) (by have := HLd.out.len; omega) v u12 w h1 h2)
                        obtain ⟨Q, hQ⟩ : ∃ Q, n2 / m1 = Q := ⟨_, rfl⟩
                        obtain ⟨M, hM⟩ : ∃ M, decide (0 < n2 % m1) = M := ⟨_, rfl⟩
                        rw [hQ, hM] at HQT hZ2
                        rw [hQ] at hQB
                        obtain ⟨r, hr⟩ : ∃ r, Pure.roundF bits false Q (-b) M = r := ⟨_, rfl⟩
                        rw [hr] at hZ2
                        have HRD := Lib.hid (fun w => round_c bits Q hQB _ _ r hr w)
                        have HZ := Lib.hid hZ2
                        clear hB hbB hnb hfit hZ2 hn2 hlen2 hQB hQ hM hr
                        go_wp2_with (first | (go_at_call 102; with_reducible refine (HT1.out _ HLd.out.out).mono ?_; intro x w' hq; obtain ⟨hx, hw⟩ := hq.out; subst hx; subst hw; clear hq) | (go_at_call 102; with_reducible refine (HT2.out _ HLn2.out.out).mono ?_; intro x w' hq; obtain ⟨hx, hw⟩ := hq.out; subst hx; subst hw; clear hq))
                        refine (HLF.out _ HLn2.out.out).mono ?_
                        intro x w5 hq
                        obtain ⟨v, hx, hv, hb⟩ := hq.out
                        subst hx
                        have HV5 := Lib.hid hv
                        have HB5 := Lib.hid (below_step HB.out hb)
                        have HO5 := Lib.hid (HLd.out.out.below hb)
                        clear hq hv hb HLF HT1 HT2
                        go_wp2_with fail
                        refine (HQT.out v _ HV5.out HO5.out).mono ?_
                        intro x w6 hq
                        obtain ⟨hx, hb⟩ := hq.out
                        subst hx
                        have HB6 := Lib.hid (below_step HB5.out hb)
                        clear hq hb HQT
                        go_wp2_with fail
                        refine (HRD.out _).mono ?_
                        rintro x w7 ⟨rfl, hb⟩
                        have HB7 := Lib.hid (below_step HB6.out hb)
                        clear hb
                        go_wp2
                        go_ret
                        exact ⟨by rw [← HZ.out]; rfl, HB7.out⟩
                      · obtain ⟨B, hB⟩ : ∃ B, (-b).toNat = B := ⟨_, rfl⟩
                        have hbB : (B : Int) = -b := by omega
                        have hnb : b.toNat = 0 := by omega
                        have hB2 : B ≤ 200000 := by omega
                        rw [hB, hnb, Nat.pow_zero, Nat.mul_one] at hfit hZ2
                        have HLF := Lib.hid (fun w h => left_c m1 B (by omega) (by have := HLd.out.len; omega) u12 w h)
                        rw [hbB] at HLF
                        have hm20 : 0 < m1 * 2 ^ B := Nat.mul_pos hm0 (Nat.pow_pos (by decide))
                        obtain ⟨m2, hm2⟩ : ∃ m2, m1 * 2 ^ B = m2 := ⟨_, rfl⟩
                        have hlen2 : (wds B64 m2).length ≤ 300000 := by rw [← hm2]; have := wds_len_dbl m1 B; have := HLd.out.len; omega
                        rw [hm2] at HLF hfit hZ2 hm20
                        have hQB : n1 / m2 < B64 := (Nat.div_lt_iff_lt_mul hm20).2 (by rw [Nat.mul_comm]; exact hfit)
                        have HQT := Lib.hid (fun v w h1 h2 => quot_c n1 m2 hm20 hfit (by have := HLn2.out.len; omega) (by omega) u11 v w h1 h2)
                        obtain ⟨Q, hQ⟩ : ∃ Q, n1 / m2 = Q := ⟨_, rfl⟩
                        obtain ⟨M, hM⟩ : ∃ M, decide (0 < n1 % m2) = M := ⟨_, rfl⟩
                        rw [hQ, hM] at HQT hZ2
                        rw [hQ] at hQB
                        obtain ⟨r, hr⟩ : ∃ r, Pure.roundF bits false Q (-b) M = r := ⟨_, rfl⟩
                        rw [hr] at hZ2
                        have HRD := Lib.hid (fun w => round_c bits Q hQB _ _ r hr w)
                        have HZ := Lib.hid hZ2
                        have hbn : b ≤ 0 := by omega
                        clear hB hbB hnb hfit hZ2 hm2 hlen2 hQB hQ hM hr hm20 hbp
                        go_wp2_with (first | (go_at_call 102; with_reducible refine (HT1.out _ HLd.out.out).mono ?_; intro x w' hq; obtain ⟨hx, hw⟩ := hq.out; subst hx; subst hw; clear hq) | (go_at_call 102; with_reducible refine (HT2.out _ HLn2.out.out).mono ?_; intro x w' hq; obtain ⟨hx, hw⟩ := hq.out; subst hx; subst hw; clear hq))
                        refine (HLF.out _ HLd.out.out).mono ?_
                        intro x w5 hq
                        obtain ⟨v, hx, hv, hb⟩ := hq.out
                        subst hx
                        have HV5 := Lib.hid hv
                        have HB5 := Lib.hid (below_step HB.out hb)
                        have HO5 := Lib.hid (HLn2.out.out.below hb)
                        clear hq hv hb HLF HT1 HT2
                        go_wp2_with fail
                        refine (HQT.out v _ HO5.out HV5.out).mono ?_
                        intro x w6 hq
                        obtain ⟨hx, hb⟩ := hq.out
                        subst hx
                        have HB6 := Lib.hid (below_step HB5.out hb)
                        clear hq hb HQT
                        go_wp2_with fail
                        refine (HRD.out _).mono ?_
                        rintro x w7 ⟨rfl, hb⟩
                        have HB7 := Lib.hid (below_step HB6.out hb)
                        clear hb
                        go_wp2
                        go_ret
                        exact ⟨by rw [← HZ.out]; rfl, HB7.out⟩
end Go.Proofs.YtjecdciabpjgcaaGreatDoor.Lz
