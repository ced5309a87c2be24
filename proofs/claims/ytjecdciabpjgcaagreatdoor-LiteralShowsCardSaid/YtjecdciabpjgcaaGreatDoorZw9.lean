/-
  Chapter 8's Float: what a text says, as a plain function; its walk. Condition: the library's variable internal/bytealg.MaxLen holds a number; the text is no longer than 900000 bytes.
  strconv.FormatUint at base 16: the number in hex digits; its walk. Condition: math/bits' table of de Bruijn is as its initialiser lays it.
  ShowInt: an integer with its sign, in digits; its walk. Condition: strconv's table of powers of ten is as its initialiser lays it.
  ShowFloat: a float as a text; its walk. Condition: strconv's table of powers of ten and math/bits' table are as their initialisers lay them.
  What a sign ahead and a _ between two digits do to a float's and an integer's text (plain, no program in sight). No condition.
  What is shown is read as it was (plain, no program in sight): integers and floats. No condition but that a word is one.
-/
import Derived.Lib.SmallJoins
import Derived.Lib.TrailingZeros
import Derived.Lib.AppendIntMem
import Derived.Lib.ItoaLen
import Derived.Test.YtjecdciabpjgcaaGreatDoorZw0
import Derived.Test.YtjecdciabpjgcaaGreatDoorZw1
import Derived.Test.YtjecdciabpjgcaaGreatDoorZw2
import Derived.Test.YtjecdciabpjgcaaGreatDoorZw3
import Derived.Test.YtjecdciabpjgcaaGreatDoorZw4
import Derived.Test.YtjecdciabpjgcaaGreatDoorZw5
import Derived.Test.YtjecdciabpjgcaaGreatDoorZw6
import Derived.Test.YtjecdciabpjgcaaGreatDoorZw7
import Derived.Test.YtjecdciabpjgcaaGreatDoorZw8
namespace Go.Proofs.YtjecdciabpjgcaaGreatDoor.Lz
set_option linter.unusedVariables false
set_option linter.unusedSimpArgs false
open Go.RowKit Go.Proofs.YtjecdciabpjgcaaGreatDoorW.PrintWords Go.Proofs.YtjecdciabpjgcaaGreatDoor.Lx Go.Proofs.YtjecdciabpjgcaaGreatDoor.PLz
def upF (bits : Int) (neg : Bool) : Int := if neg = true then (if bits = 32 then 2147483648 else 9223372036854775808) else 0
def floatF (bits : Int) (l : List UInt8) : Int × Bool :=
  if bits = 32 ∨ bits = 64 then
    let s := signF l
    let m := magF bits s.2
    if m.2 = true then (Go.bits .or .u64 m.1 (upF bits s.1), true) else (0, false)
  else (0, false)
set_option maxRecDepth 1000000 in
set_option maxHeartbeats 4000000 in
theorem float_c (bits : Int) (s : ByteArray) (hs : s.size ≤ 900000) (w : World) (hm : ML w) :
    Calls Tryz.prog 12 #[.int .i64 bits, .string s] w (MgQ w (floatF bits s.data.toList)) := by
  obtain ⟨R, hR⟩ : ∃ R, floatF bits s.data.toList = R := ⟨_, rfl⟩
  rw [hR]
  unfold floatF at hR
  by_cases hb : bits = 32 ∨ bits = 64
  · rw [if_pos hb] at hR
    obtain ⟨S, hS⟩ : ∃ S, signF s.data.toList = S := ⟨_, rfl⟩
    have hSl := signF_len s.data.toList
    rw [hS] at hR hSl
    obtain ⟨neg, t⟩ := S
    have HSG := Lib.hid (fun w => sign_c s neg t hS w)
    simp only at hR hSl
    rw [len_data] at hSl
    obtain ⟨m, hmm⟩ : ∃ m, magF bits t = m := ⟨_, rfl⟩
    have HMG := Lib.hid (fun w hm => mag_c bits hb ⟨t.toArray⟩ (by rw [size_arr]; omega) w hm)
    rw [arr_self, hmm] at HMG
    rw [hmm] at hR
    obtain ⟨v, fine⟩ := m
    simp only at hR
    have HM := Lib.hid hm
    have HRR := Lib.hid hR
    clear hR hSl hS hmm hm
    rcases hb with rfl | rfl
    · cases neg
      · cases fine
        · go_enter Tryz.func12, Tryz.ntmps12
          go_wp2_with (first | (go_at_call 22; refine (HSG.out _).mono ?_; rintro x w1 ⟨rfl, rfl⟩) | (go_at_call 32; refine (HMG.out _ HM.out).mono ?_; intro x w2 hq; obtain ⟨hx, hb⟩ := hq.out; subst hx; have HB2 := Lib.hid hb; clear hq hb))
          go_ret2
          exact ⟨by rw [← HRR.out]; rfl, HB2.out⟩
        · go_enter Tryz.func12, Tryz.ntmps12
          go_wp2_with (first | (go_at_call 22; refine (HSG.out _).mono ?_; rintro x w1 ⟨rfl, rfl⟩) | (go_at_call 32; refine (HMG.out _ HM.out).mono ?_; intro x w2 hq; obtain ⟨hx, hb⟩ := hq.out; subst hx; have HB2 := Lib.hid hb; clear hq hb))
          go_ret2
          exact ⟨by rw [← HRR.out]; rfl, HB2.out⟩
      · cases fine
        · go_enter Tryz.func12, Tryz.ntmps12
          go_wp2_with (first | (go_at_call 22; refine (HSG.out _).mono ?_; rintro x w1 ⟨rfl, rfl⟩) | (go_at_call 32; refine (HMG.out _ HM.out).mono ?_; intro x w2 hq; obtain ⟨hx, hb⟩ := hq.out; subst hx; have HB2 := Lib.hid hb; clear hq hb))
          go_ret2
          exact ⟨by rw [← HRR.out]; rfl, HB2.out⟩
        · go_enter Tryz.func12, Tryz.ntmps12
          go_wp2_with (first | (go_at_call 22; refine (HSG.out _).mono ?_; rintro x w1 ⟨rfl, rfl⟩) | (go_at_call 32; refine (HMG.out _ HM.out).mono ?_; intro x w2 hq; obtain ⟨hx, hb⟩ := hq.out; subst hx; have HB2 := Lib.hid hb; clear hq hb))
          go_ret2
          exact ⟨by rw [← HRR.out]; rfl, HB2.out⟩
    · cases neg
      · cases fine
        · go_enter Tryz.func12, Tryz.ntmps12
          go_wp2_with (first | (go_at_call 22; refine (HSG.out _).mono ?_; rintro x w1 ⟨rfl, rfl⟩) | (go_at_call 32; refine (HMG.out _ HM.out).mono ?_; intro x w2 hq; obtain ⟨hx, hb⟩ := hq.out; subst hx; have HB2 := Lib.hid hb; clear hq hb))
          go_ret2
          exact ⟨by rw [← HRR.out]; rfl, HB2.out⟩
        · go_enter Tryz.func12, Tryz.ntmps12
          go_wp2_with (first | (go_at_call 22; refine (HSG.out _).mono ?_; rintro x w1 ⟨rfl, rfl⟩) | (go_at_call 32; refine (HMG.out _ HM.out).mono ?_; intro x w2 hq; obtain ⟨hx, hb⟩ := hq.out; subst hx; have HB2 := Lib.hid hb; clear hq hb))
          go_ret2
          exact ⟨by rw [← HRR.out]; rfl, HB2.out⟩
      · cases fine
        · go_enter Tryz.func12, Tryz.ntmps12
          go_wp2_with (first | (go_at_call 22; refine (HSG.out _).mono ?_; rintro x w1 ⟨rfl, rfl⟩) | (go_at_call 32; refine (HMG.out _ HM.out).mono ?_; intro x w2 hq; obtain ⟨hx, hb⟩ := hq.out; subst hx; have HB2 := Lib.hid hb; clear hq hb))
          go_ret2
          exact ⟨by rw [← HRR.out]; rfl, HB2.out⟩
        · go_enter Tryz.func12, Tryz.ntmps12
          go_wp2_with (first | (go_at_call 22; refine (HSG.out _).mono ?_; rintro x w1 ⟨rfl, rfl⟩) | (go_at_call 32; refine (HMG.out _ HM.out).mono ?_; intro x w2 hq; obtain ⟨hx, hb⟩ := hq.out; subst hx; have HB2 := Lib.hid hb; clear hq hb))
          go_ret2
          exact ⟨by rw [← HRR.out]; rfl, HB2.out⟩
  · rw [if_neg hb] at hR
    have HRR := Lib.hid hR
    have q1 : (bits != 32) = true := by simp only [bne_iff_ne, ne_eq]; omega
    have q2 : (bits != 64) = true := by simp only [bne_iff_ne, ne_eq]; omega
    clear hR hb hm
    go_enter Tryz.func12, Tryz.ntmps12
    go_wp2
    go_ret2
    exact ⟨by rw [← HRR.out]; rfl, Below.refl _ _⟩
end Go.Proofs.YtjecdciabpjgcaaGreatDoor.Lz
namespace Go.Proofs.YtjecdciabpjgcaaGreatDoor.Lz
set_option linter.unusedVariables false
set_option linter.unusedSimpArgs false
open Go.RowKit Go.Proofs.YtjecdciabpjgcaaGreatDoorW.PrintWords Go.Proofs.YtjecdciabpjgcaaGreatDoor.Lx
/-- A hex digit's byte. -/
def hxd (d : Nat) : UInt8 := if d < 10 then UInt8.ofNat (48 + d) else UInt8.ofNat (87 + d)
/-- A number in hex digits. -/
def hexT (n : Nat) : List UInt8 := if h : n < 16 then [hxd n] else hexT (n / 16) ++ [hxd (n % 16)]
termination_by n
decreasing_by omega
theorem hexT_lt (n : Nat) (h : n < 16) : hexT n = [hxd n] := by rw [hexT]; simp [h]
theorem hexT_ge (n : Nat) (h : 16 ≤ n) : hexT n = hexT (n / 16) ++ [hxd (n % 16)] := by rw [hexT]; simp [show ¬ n < 16 by omega]
/-- math/bits.deBruijn64tab lies as it is laid. -/
def DB (w : World) : Prop := ∀ j, j < 64 → w.cell? ⟨6, j, none⟩ = some (.int .u8 ((Lib.deBruijn64tab.getD j 0 : Nat) : Int))
theorem db_below {w w' : World} (h : DB w) (hb : Below w.heap.size w w') : DB w' := fun j hj => by
  have := h j hj
  rw [← this]
  exact hb.cell (by
    rcases Nat.lt_or_ge 6 w.heap.size with h1 | h1
    · exact h1
    · have h2 := h j hj
      simp [World.cell?, Array.getElem?_eq_none h1] at h2)
set_option maxRecDepth 1000000 in
set_option maxHeartbeats 2000000 in
theorem tz16 (w : World) (h : DB w) : Calls Tryz.prog 164 #[.int .u64 16] w fun e w' => e = .returned (.int .i64 4) ∧ w' = w := by
  have hc : w.cell? ⟨6, 15, none⟩ = some (.int .u8 4) := h 15 (by omega)
  have key : IntKind.u64.wrap (bits BinOp.and IntKind.u64 16 (IntKind.u64.wrap (-16)) * 285870213051353865) / 288230376151711744 = 15 := by decide +kernel
  go_enter Tryz.func164, Tryz.ntmps164
  go_wp2_with (simp only [key])
  go_ret
  exact ⟨rfl, rfl⟩
set_option maxRecDepth 1000000 in
set_option maxHeartbeats 2000000 in
theorem tzu16 (w : World) (h : DB w) : Calls Tryz.prog 142 #[.int .u64 16] w fun e w' => e = .returned (.int .i64 4) ∧ w' = w := by
  go_enter Tryz.func142, Tryz.ntmps142
  go_wp2_with (go_at_call 164; refine (tz16 _ h).mono ?_; rintro x w' ⟨rfl, rfl⟩)
  go_ret
  exact ⟨rfl, rfl⟩
set_option maxRecDepth 1000000 in
set_option maxHeartbeats 2000000 in
theorem ip16 (w : World) : Calls Tryz.prog 141 #[.int .i64 16] w fun e w' => e = .returned (.bool true) ∧ w' = w := by
  go_enter Tryz.func141, Tryz.ntmps141
  go_wp2
  go_ret
  exact ⟨rfl, rfl⟩
/-- strconv's digits. -/
def DIG : ByteArray := ⟨#[48, 49, 50, 51, 52, 53, 54, 55, 56, 57, 97, 98, 99, 100, 101, 102, 103, 104, 105, 106, 107, 108, 109, 110, 111, 112, 113, 114, 115, 116, 117, 118, 119, 120, 121, 122]⟩
theorem dig_at (d : Nat) (h : d < 16) (h' : d < DIG.size) : DIG[d] = hxd d := by
  have key : ∀ i : Fin 16, DIG[i.val]'(Nat.lt_of_lt_of_le i.isLt (by decide)) = hxd i.val := by decide
  exact key ⟨d, h⟩
structure FbR (w : World) (n : Nat) (v1 v13 : Value) (wr : World) : Prop where mk ::
  (out : ∃ (p v : Nat) (L : List UInt8), v1 = .int .u64 (v : Int) ∧ v13 = .int .i64 (p : Int) ∧ p + L.length = 65 ∧ 50 ≤ p ∧ v < 16 ^ (p - 49) ∧ hexT v ++ L = hexT n ∧
    (∀ j, j < 65 → ∃ b : UInt8, wr.cell? ⟨w.heap.size, j, none⟩ = some (.int .u8 (b.toNat : Int)) ∧ wr.frozen? ⟨w.heap.size, j, none⟩ = false) ∧
    (∀ j (h : j < L.length), wr.cell? ⟨w.heap.size, p + j, none⟩ = some (.int .u8 (L[j].toNat : Int))) ∧ Below w.heap.size w wr)
set_option maxRecDepth 1000000 in
set_option maxHeartbeats 4000000 in
theorem fb_c (n : Nat) (hn : n < 18446744073709551616) (w : World) (hd : DB w) :
    Calls Tryz.prog 108 #[.slice none 0 0, .int .u64 n, .int .i64 16, .bool false, .bool false] w fun e w' => e = .returned (.tuple #[.slice none 0 0, .string ⟨(hexT n).toArray⟩]) ∧ Below w.heap.size w w' := by
  have HD := Lib.hid hd
  clear hd
  go_enter Tryz.func108, Tryz.ntmps108
  go_wp2_with (first | (go_at_call 141; refine (ip16 _).mono ?_; rintro x w' ⟨rfl, rfl⟩) | (go_at_call 142; refine (tzu16 _ (db_below HD.out ((Below.refl _ _).alloc (Nat.le_refl _) _))).mono ?_; rintro x w' ⟨rfl, rfl⟩))
  go_loopw [1, 13] (FbR w n) (fun v1 _ _ => numV v1)
  case atStart =>
    refine ⟨65, n, [], rfl, rfl, rfl, by omega, by simpa using hn, by simp, fun j hj => ⟨0, ?_, World.frozen?_alloc_new _ _ _ _⟩, fun j hj => by simp at hj, (Below.refl _ _).alloc (Nat.le_refl _) _⟩
    rw [World.cell?_alloc_new]
    have e : Tryz.zeroCells169 = Array.replicate 65 (.int .u8 0) := rfl
    rw [e, Array.getElem?_replicate, if_pos hj]
    rfl
  case round =>
    obtain ⟨p, v, L, rfl, rfl, hpl, hp, hv, hL, hc, hcl, hb⟩ := hrel.out
    clear hrel
    rename World => W
    have hv64 : v < 18446744073709551616 := Nat.lt_of_lt_of_le hv (Nat.le_trans (Nat.pow_le_pow_right (by omega) (show p - 49 ≤ 16 by omega)) (by decide))
    have HB := Lib.hid hb
    have HC := Lib.hid hc
    have HCL := Lib.hid hcl
    have HLL := Lib.hid hL
    by_cases h16 : 16 ≤ v
    · obtain ⟨q, rfl⟩ : ∃ q, p = q + 1 := ⟨p - 1, by omega⟩
      have hq : 50 ≤ q := by
        by_cases hq : 50 ≤ q
        · exact hq
        · exfalso
          have : (16 : Nat) ^ (q + 1 - 49) ≤ 16 ^ 1 := Nat.pow_le_pow_right (by omega) (by omega)
          omega
      have hvq : v / 16 < 16 ^ (q - 49) := by
        rw [show q + 1 - 49 = (q - 49) + 1 by omega, Nat.pow_succ] at hv
        exact Nat.div_lt_of_lt_mul (by omega)
      have HV := Lib.hid hvq
      obtain ⟨b, hcq, hfq⟩ := hc q (by omega)
      have hand : bits .and .u64 (v : Int) 15 = ((v % 16 : Nat) : Int) := by
        rw [show (15 : Int) = ((15 : Nat) : Int) from rfl, bits_and_u64_nat v 15 hv64 (by omega), show (15 : Nat) = 2 ^ 4 - 1 from rfl, Nat.and_two_pow_sub_one_eq_mod]
      have hm : v % 16 < 16 := Nat.mod_lt _ (by omega)
      have hmI : ((v % 16 : Nat) : Int) < 16 := by omega
      have HT : Hid (hexT (v / 16) ++ hxd (v % 16) :: L = hexT n) := Lib.hid (by rw [← hL, hexT_ge v h16]; simp)
      clear hc hcl hb hv hL hvq
      generalize v % 16 = d at *
      have h16I : (16 : Int) ≤ (v : Int) := by omega
      go_wp2
      go_roundw
      case rel =>
        refine ⟨q, v / 16, hxd d :: L, by push_cast; rfl, rfl, by simp; omega, hq, HV.out, HT.out, fun j hj => ?_, fun j hj => ?_, HB.out.setCell (Nat.le_refl _) _⟩
        · obtain ⟨c, h1, h2⟩ := HC.out j hj
          rw [World.frozen?_setCell]
          by_cases hjq : j = q
          · subst hjq
            exact ⟨_, World.cell?_setCell_same _ _ _ hcq, h2⟩
          · exact ⟨c, by rw [World.cell?_setCell_other _ _ _ _ (fun h => hjq (congrArg Addr.off h).symm)]; exact h1, h2⟩
        · cases j with
          | zero =>
            refine (World.cell?_setCell_same W ⟨w.heap.size, q, none⟩ _ hcq).trans ?_
            exact congrArg (fun x : UInt8 => some (Value.int .u8 (x.toNat : Int))) (dig_at d hm (Nat.lt_of_lt_of_le hm (by decide)))
          | succ i =>
            rw [World.cell?_setCell_other _ _ _ _ (by simp), List.getElem_cons_succ, show q + (i + 1) = q + 1 + i by omega]
            exact HCL.out i (by simpa using hj)
      case measure =>
        simp only [numV]
        omega
    · have hT : hexT n = hxd v :: L := by rw [← hL, hexT_lt v (by omega)]; rfl
      have hlen : (hexT n).length = 65 - (p - 1) := by rw [hT, List.length_cons]; omega
      obtain ⟨q, rfl⟩ : ∃ q, p = q + 1 := ⟨p - 1, by omega⟩
      obtain ⟨b, hcq, hfq⟩ := hc q (by omega)
      have hal : Tryz.prog.arrayLen 169 = 65 := rfl
      have hsl : ∀ W', (Instr.sliceAt 169 (.pointer (some ⟨w.heap.size, 0, none⟩)) (some (.int .i64 (q : Int))) none none).run Tryz.prog W' = .ok (.slice (some ⟨w.heap.size, q, none⟩) (hexT n).length (hexT n).length) W' := fun W' => by
        rw [run_sliceAt_array_l W' 169 ⟨w.heap.size, 0, none⟩ rfl .i64 (q : Int) (by omega) (by rw [hal]; omega)]
        rw [hlen, hal]
        go_simp
        omega
      have hD : DIG[v]'(Nat.lt_of_lt_of_le (show v < 16 by omega) (by decide)) = hxd v := dig_at v (by omega) _
      have hcv : (convert 49 9 (.slice (some ⟨w.heap.size, q, none⟩) (hexT n).length (hexT n).length)).run Tryz.prog (W.setCell ⟨w.heap.size, q, none⟩ (.int .u8 ((DIG[v]'(Nat.lt_of_lt_of_le (show v < 16 by omega) (by decide))).toNat : Int))) = .ok (.string ⟨(hexT n).toArray⟩) (W.setCell ⟨w.heap.size, q, none⟩ (.int .u8 ((DIG[v]'(Nat.lt_of_lt_of_le (show v < 16 by omega) (by decide))).toNat : Int))) := by
        refine run_convert_bytes_back _ 49 9 5 _ _ (hexT n) rfl rfl rfl fun j hj => ?_
        simp only [hT, hD]
        cases j with
        | zero => exact World.cell?_setCell_same _ _ _ hcq
        | succ i =>
          rw [World.cell?_setCell_other _ _ _ _ (by simp [Addr.add]), List.getElem_cons_succ]
          have := hcl i (by rw [hT] at hj; simpa using hj)
          rw [show q + 1 + i = q + (i + 1) by omega] at this
          exact this
      clear hc hcl hb hv hL hT hlen hD hal
      unfold DIG at hcv
      go_wp2
      go_ret2
      exact ⟨rfl, HB.out.setCell (Nat.le_refl _) _⟩
set_option maxRecDepth 1000000 in
set_option maxHeartbeats 4000000 in
theorem fui_c (n : Nat) (hn : n < 18446744073709551616) (w : World) (hd : DB w) :
    Calls Tryz.prog 74 #[.int .u64 n, .int .i64 16] w fun e w' => e = .returned (.string ⟨(hexT n).toArray⟩) ∧ Below w.heap.size w w' := by
  have HF := Lib.hid (fb_c n hn w hd)
  clear hd
  go_enter Tryz.func74, Tryz.ntmps74
  go_wp2_with (go_at_call 108; refine HF.out.mono ?_; rintro x w' ⟨rfl, hb⟩)
  go_ret
  exact ⟨rfl, hb⟩
set_option maxRecDepth 1000000 in
set_option maxHeartbeats 4000000 in
theorem fu_c (n : Nat) (hn : n < 18446744073709551616) (w : World) (hd : DB w) :
    Calls Tryz.prog 38 #[.int .u64 n, .int .i64 16] w fun e w' => e = .returned (.string ⟨(hexT n).toArray⟩) ∧ Below w.heap.size w w' := by
  have HF := Lib.hid (fui_c n hn w hd)
  clear hd
  go_enter Tryz.func38, Tryz.ntmps38
  go_wp2_with (go_at_call 74; refine HF.out.mono ?_; rintro x w' ⟨rfl, hb⟩)
  go_ret
  exact ⟨rfl, hb⟩
end Go.Proofs.YtjecdciabpjgcaaGreatDoor.Lz
namespace Go.Proofs.YtjecdciabpjgcaaGreatDoor.Lz
set_option linter.unusedVariables false
set_option linter.unusedSimpArgs false
open Go.RowKit Go.Proofs.YtjecdciabpjgcaaGreatDoorW.PrintWords Go.Proofs.YtjecdciabpjgcaaGreatDoor.Lx Go.Proofs.YtjecdciabpjgcaaGreatDoor.PLz
def rightB (bits : Int) : Prop := bits = 8 ∨ bits = 16 ∨ bits = 32 ∨ bits = 64
instance (bits : Int) : Decidable (rightB bits) := by unfold rightB; infer_instance
/-- An integer of so many bits, with its sign. -/
def sgnB (k : Nat) (v : Nat) : Int := if v % 2 ^ k < 2 ^ (k - 1) then ((v % 2 ^ k : Nat) : Int) else ((v % 2 ^ k : Nat) : Int) - (2 ^ k : Nat)
def showI (bits : Int) (v : Nat) : List UInt8 := if rightB bits then Lib.itoa (sgnB bits.toNat v) else []
theorem sgn_at (k v : Nat) (hk : k = 8 ∨ k = 16 ∨ k = 32 ∨ k = 64) : shr .i64 (wrap64 (shl .u64 (v : Int) ((64 - k : Nat) : Int))) ((64 - k : Nat) : Int) = sgnB k v := by
  have h1 : shl .u64 (v : Int) ((64 - k : Nat) : Int) = IntKind.u64.wrap ((v : Int) * (2 ^ (64 - k) : Nat)) := by
    unfold shl
    rcases hk with rfl | rfl | rfl | rfl <;> rfl
  have h2 : ∀ x : Int, shr .i64 x ((64 - k : Nat) : Int) = x / (2 ^ (64 - k) : Nat) := by
    intro x
    unfold shr
    rcases hk with rfl | rfl | rfl | rfl <;> rfl
  rw [h1, h2, IntKind.wrap_u64]
  unfold wrap64 sgnB
  rcases hk with rfl | rfl | rfl | rfl <;> simp only [Nat.reduceSub, Nat.reducePow] <;> split <;> omega
theorem sgn_c (k v : Nat) (hk : k = 8 ∨ k = 16 ∨ k = 32 ∨ k = 64) : ints_Signed.f (k : Int) (v : Int) = some (sgnB k v) := by
  have h := sgn_at k v hk
  unfold ints_Signed.f ints_right.f
  rcases hk with rfl | rfl | rfl | rfl
  all_goals
    rw [← h]
    rfl
theorem sgn_range (k v : Nat) (hk : k = 8 ∨ k = 16 ∨ k = 32 ∨ k = 64) : -9223372036854775808 ≤ sgnB k v ∧ sgnB k v ≤ 9223372036854775807 := by
  unfold sgnB
  rcases hk with rfl | rfl | rfl | rfl <;> simp only [Nat.reduceSub, Nat.reducePow] <;> split <;> omega
/-- The laid tables and MaxLen. -/
structure TW (w : World) : Prop where
  ml : ML w
  db : DB w
  p10 : Lib.TabIs Tryz.prog w "internal/strconv.uint64pow10" .u64 Lib.pow10Tab
theorem TW.below {w w' : World} (h : TW w) (hb : Below w.heap.size w w') : TW w' :=
  ⟨h.ml.below hb, db_below h.db hb, by
    obtain ⟨g, hg⟩ : ∃ g, Tryz.prog.globalNamed "internal/strconv.uint64pow10" = some g := by
      have := h.p10
      unfold Lib.TabIs World.var? at this
      cases hg : Tryz.prog.globalNamed "internal/strconv.uint64pow10" with
      | none => simp [hg] at this
      | some g => exact ⟨g, rfl⟩
    exact Go.Joins.tab_stays hg h.p10 hb (Nat.le_refl _)⟩
theorem fi_c (n : Int) (h : -9223372036854775808 ≤ n ∧ n ≤ 9223372036854775807) (w : World) (ht : TW w) :
    Calls Tryz.prog 33 #[.int .i64 n, .int .i64 10] w fun e w' => e = .returned (.string ⟨(Lib.itoa n).toArray⟩) ∧ Below w.heap.size w w' :=
  (Tryz.strconv_FormatInt_10 n h.1 h.2 w ht.p10).mono fun e w' hh => by
    obtain ⟨h1, k, os, rfl⟩ := hh
    exact ⟨h1, Lib.below_grow _ w (Nat.le_refl _) k os⟩
theorem it_c (n : Int) (h : -9223372036854775808 ≤ n ∧ n ≤ 9223372036854775807) (w : World) (ht : TW w) :
    Calls Tryz.prog 40 #[.int .i64 n] w fun e w' => e = .returned (.string ⟨(Lib.itoa n).toArray⟩) ∧ Below w.heap.size w w' :=
  (Tryz.strconv_Itoa n h.1 h.2 w ht.p10).mono fun e w' hh => by
    obtain ⟨h1, k, os, rfl⟩ := hh
    exact ⟨h1, Lib.below_grow _ w (Nat.le_refl _) k os⟩
set_option maxRecDepth 1000000 in
set_option maxHeartbeats 4000000 in
theorem showInt_c (bits : Int) (hb : -9223372036854775808 ≤ bits ∧ bits ≤ 9223372036854775807) (v : Nat) (w : World) (ht : TW w) :
    Calls Tryz.prog 13 #[.int .i64 bits, .int .u64 v] w fun e w' => e = .returned (.string ⟨(showI bits v).toArray⟩) ∧ Below w.heap.size w w' := by
  by_cases hr : rightB bits
  · have hS : showI bits v = Lib.itoa (sgnB bits.toNat v) := if_pos hr
    obtain ⟨k, hk, rfl⟩ : ∃ k : Nat, (k = 8 ∨ k = 16 ∨ k = 32 ∨ k = 64) ∧ bits = (k : Int) := ⟨bits.toNat, by unfold rightB at hr; omega, by unfold rightB at hr; omega⟩
    rw [Int.toNat_natCast] at hS
    have HSG := Lib.hid (fun w => ints_Signed.calls (k : Int) (v : Int) _ w (sgn_c k v hk))
    have hrg := sgn_range k v hk
    rw [hS]
    generalize sgnB k v = z at *
    have HFI := Lib.hid (fun w ht => fi_c z hrg w ht)
    have HT := Lib.hid ht
    clear hS ht hr hb hrg
    rcases hk with rfl | rfl | rfl | rfl
    all_goals
      go_enter Tryz.func13, Tryz.ntmps13
      go_wp2_with (first | (go_at_call 34; refine (HSG.out _).mono ?_; rintro x w1 ⟨rfl, hd⟩; have HB := Lib.hid (show Below w.heap.size w w1 from by obtain ⟨d, rfl⟩ := hd; exact pw_below_drewN (Below.refl _ _) _); clear hd) | (go_at_call 33; refine (HFI.out _ (HT.out.below HB.out)).mono ?_; rintro x w2 ⟨rfl, hb⟩; have HB2 := Lib.hid (below_step HB.out hb); clear hb))
      go_ret
      exact ⟨rfl, HB2.out⟩
  · have hS : showI bits v = [] := if_neg hr
    rw [hS]
    unfold rightB at hr
    simp only [not_or] at hr
    obtain ⟨e1, e2, e3, e4⟩ := hr
    have q1 : (bits != 8) = true := by simpa using e1
    have q2 : (bits != 16) = true := by simpa using e2
    have q3 : (bits != 32) = true := by simpa using e3
    have q4 : (bits != 64) = true := by simpa using e4
    clear hS e1 e2 e3 e4
    go_enter Tryz.func13, Tryz.ntmps13
    go_wp2
    go_ret
    exact ⟨rfl, Below.refl _ _⟩
end Go.Proofs.YtjecdciabpjgcaaGreatDoor.Lz
namespace Go.Proofs.YtjecdciabpjgcaaGreatDoor.Lz
set_option linter.unusedVariables false
set_option linter.unusedSimpArgs false
open Go.RowKit Go.Proofs.YtjecdciabpjgcaaGreatDoorW.PrintWords Go.Proofs.YtjecdciabpjgcaaGreatDoor.Lx Go.Proofs.YtjecdciabpjgcaaGreatDoor.PLz
/-- A number without its factors of two, and the power that takes them. -/
def strip (m : Nat) (e : Int) : Nat × Int := if h : m % 2 = 0 ∧ 0 < m then strip (m / 2) (e + 1) else (m, e)
termination_by m
decreasing_by omega
theorem strip_odd (m : Nat) (e : Int) (h : m % 2 = 1) : strip m e = (m, e) := by rw [strip, dif_neg (by omega)]
theorem strip_even (m : Nat) (e : Int) (h : m % 2 = 0) (h0 : 0 < m) : strip m e = strip (m / 2) (e + 1) := by rw [strip, dif_pos ⟨h, h0⟩]
def signT (k v : Nat) : List UInt8 := if v / 2 ^ (k - 1) % 2 = 1 then [45] else []
def plainV (k v : Nat) : Nat := v % 2 ^ (k - 1)
def showF (bits : Int) (v : Nat) : List UInt8 :=
  let kd := Fl.kindF bits v
  let sg := signT bits.toNat v
  let p := plainV bits.toNat v
  if kd = 0 then [] else
  if kd = 1 then sg ++ [48, 120, 48, 112, 48] else
  if kd = 3 then sg ++ [105, 110, 102] else
  if (p : Int) = Fl.canon bits then sg ++ [110, 97, 110] else
  if kd = 4 then sg ++ [110, 97, 110, 58, 48, 120] ++ hexT (IntKind.u64.wrap ((p : Int) - infF bits)).toNat else
  let q := Pure.partsF bits p
  let s := strip q.2.1.toNat q.2.2.1
  sg ++ [48, 120] ++ hexT s.1 ++ [112] ++ Lib.itoa s.2
theorem kind_c (bits : Int) (v : Nat) (hv : v < 18446744073709551616) (w : World) :
    Calls Tryz.prog 35 #[.int .i64 bits, .int .u64 v] w fun x w' => x = .returned (.int .i64 (Fl.kindF bits v)) ∧ Below w.heap.size w w' :=
  floats_Kind.calls bits v _ w (Pure.c_Kind bits v hv)
theorem parts_c (bits : Int) (v : Nat) (hv : v < 18446744073709551616) (q : Bool × Int × Int × Int) (h : Pure.partsF bits v = q) (w : World) :
    Calls Tryz.prog 39 #[.int .i64 bits, .int .u64 v] w fun x w' => x = .returned (.tuple #[.bool q.1, .int .u64 q.2.1, .int .i64 q.2.2.1, .int .i64 q.2.2.2]) ∧ Below w.heap.size w w' :=
  floats_Parts.calls 1 bits v _ _ _ _ w (by rw [Pure.c_Parts bits v hv 1 (Nat.le_refl _), h])
theorem hexT_len : ∀ (k n : Nat), n < 16 ^ k → 1 ≤ k → (hexT n).length ≤ k
  | 0, n, _, h => by omega
  | k + 1, n, h, _ => by
    by_cases h16 : n < 16
    · rw [hexT_lt n h16]; simp
    · have hk : 1 ≤ k := by
        rcases Nat.eq_zero_or_pos k with rfl | h0
        · simp at h; omega
        · exact h0
      have := hexT_len k (n / 16) (by rw [Nat.pow_succ] at h; exact Nat.div_lt_of_lt_mul (by omega)) hk
      rw [hexT_ge n (by omega), List.length_append, List.length_singleton]
      omega
theorem kind_rg (bits : Int) (h : bits = 32 ∨ bits = 64) (v : Int) : 1 ≤ Fl.kindF bits v ∧ Fl.kindF bits v ≤ 4 := by
  unfold Fl.kindF
  rw [if_neg (by omega)]
  repeat' split
  all_goals omega
theorem and_one (x : Nat) (hx : x < 18446744073709551616) : bits .and .u64 (x : Int) 1 = ((x % 2 : Nat) : Int) := by
  rw [show (1 : Int) = ((1 : Nat) : Int) from rfl, bits_and_u64_nat x 1 hx (by omega), Nat.and_one_is_mod]
theorem and_31 (x : Nat) (hx : x < 18446744073709551616) : bits .and .u64 (x : Int) 2147483647 = ((plainV 32 x : Nat) : Int) := by
  rw [show (2147483647 : Int) = ((2147483647 : Nat) : Int) from rfl, bits_and_u64_nat x _ hx (by omega), show (2147483647 : Nat) = 2 ^ 31 - 1 from rfl, Nat.and_two_pow_sub_one_eq_mod]
  rfl
theorem and_63 (x : Nat) (hx : x < 18446744073709551616) : bits .and .u64 (x : Int) 9223372036854775807 = ((plainV 64 x : Nat) : Int) := by
  rw [show (9223372036854775807 : Int) = ((9223372036854775807 : Nat) : Int) from rfl, bits_and_u64_nat x _ hx (by omega), show (9223372036854775807 : Nat) = 2 ^ 63 - 1 from rfl, Nat.and_two_pow_sub_one_eq_mod]
  rfl
theorem pow_bound (m j : Nat) (hm : 0 < m) (h : m * 2 ^ j < 18446744073709551616) : j < 64 := by
  rcases Nat.lt_or_ge j 64 with h1 | h1
  · exact h1
  · have h2 : 2 ^ 64 ≤ 2 ^ j := Nat.pow_le_pow_right (by decide) h1
    have h3 : 1 * 2 ^ j ≤ m * 2 ^ j := Nat.mul_le_mul_right _ hm
    have : (2 : Nat) ^ 64 = 18446744073709551616 := by decide
    omega
theorem plain_lt (k v : Nat) : plainV k v < 2 ^ (k - 1) := Nat.mod_lt _ (Nat.two_pow_pos _)
theorem sz_sgn (bits : Int) (hb : bits = 32 ∨ bits = 64) {p q : Int} {f : Ieee.Format} (S : Pure.Sz bits p q f) : f.signWeight = 2 ^ (bits.toNat - 1) := by
  rcases S.pq with ⟨_, _, rfl⟩ | ⟨_, _, rfl⟩
  · have hf := S.fm
    rcases hb with rfl | rfl
    · rw [Fl.s_sgn]; rfl
    · exact absurd (congrArg (fun g : Ieee.Format => g.fractionBits) hf) (by decide)
  · have hf := S.fm
    rcases hb with rfl | rfl
    · exact absurd (congrArg (fun g : Ieee.Format => g.fractionBits) hf) (by decide)
    · rw [Fl.d_sgn]; rfl
/-- The parts of what is plain of a number. -/
theorem parts_two (bits : Int) (hb : bits = 32 ∨ bits = 64) (v : Nat) (hv : v < 18446744073709551616) (hk : Fl.kindF bits (v : Int) = 2) :
    ∃ (M : Nat) (E : Int), Pure.partsF bits (plainV bits.toNat v) = (false, (M : Int), E, 0) ∧ 0 < M ∧ M < 18446744073709551616 ∧ -1074 ≤ E ∧ E ≤ 2046 := by
  obtain ⟨p, q, f, S⟩ := Pure.sz bits hb
  have hsg := sz_sgn bits hb S
  have hP : plainV bits.toNat v < f.signWeight := by rw [hsg]; exact plain_lt _ _
  have hrv : Fl.rungOf f (Fl.wOf bits (v : Int)) = plainV bits.toNat v := by
    rw [← (S.same v hv).1]
    unfold Fl.rungOf plainV
    rw [hsg]
  have hpl : plainV bits.toNat v < 18446744073709551616 := by
    have h1 := plain_lt bits.toNat v
    rcases hb with rfl | rfl
    · have e : (2 : Nat) ^ ((32 : Int).toNat - 1) = 2147483648 := rfl
      rw [e] at h1; omega
    · have e : (2 : Nat) ^ ((64 : Int).toNat - 1) = 9223372036854775808 := rfl
      rw [e] at h1; omega
  have hwp : Fl.wOf bits ((plainV bits.toNat v : Nat) : Int) = plainV bits.toNat v := by
    rw [← S.cut _ hpl]
    exact Nat.mod_eq_of_lt (by omega)
  have hrp : Fl.rungOf f (plainV bits.toNat v) = plainV bits.toNat v := Nat.mod_eq_of_lt hP
  have hkp : Fl.kindF bits ((plainV bits.toNat v : Nat) : Int) = 2 := by
    rw [← hk]
    unfold Fl.kindF
    rw [S.fm, hwp, hrv]
    unfold Fl.nanW
    rw [hrv, hrp]
  have hz : Fl.rungOf f (Fl.wOf bits (v : Int)) ≠ 0 ∧ Fl.rungOf f (Fl.wOf bits (v : Int)) < f.infRung := by
    have h2 := Pure.kind_num S v (.inr hk)
    refine ⟨fun h0 => ?_, h2⟩
    unfold Fl.kindF at hk
    rw [if_neg (by omega), S.fm, if_pos h0] at hk
    cases hk
  rw [hrv] at hz
  have hml := Fl.mag_lt f (Fl.rungOf f (plainV bits.toNat v))
  refine ⟨Fl.magOf f (Fl.rungOf f (plainV bits.toNat v)), f.leastPlace + (Fl.plOf f (Fl.rungOf f (plainV bits.toNat v)) : Int), ?_, ?_, ?_⟩
  · unfold Pure.partsF
    rw [if_pos (.inr hkp), S.fm, hwp]
    have hng : Fl.negOf f (plainV bits.toNat v) = false := by unfold Fl.negOf; rw [Nat.div_eq_of_lt hP]; rfl
    rw [hng]
  · have : 0 < f.binade := Fl.pw_pos _
    rw [hrp]
    unfold Fl.magOf
    split
    · omega
    · omega
  · rw [hrp] at hml ⊢
    rcases S.pq with ⟨_, _, rfl⟩ | ⟨_, _, rfl⟩
    · unfold Fl.plOf
      rw [Fl.s_bin] at hml ⊢
      rw [Fl.s_least]
      rw [Fl.s_inf] at hz
      omega
    · unfold Fl.plOf
      rw [Fl.d_bin] at hml ⊢
      rw [Fl.d_least]
      rw [Fl.d_inf] at hz
      omega
structure SfR (w : World) (M : Nat) (E : Int) (v12 v13 : Value) (wr : World) : Prop where mk ::
  (out : ∃ (m j : Nat), v12 = .int .u64 (m : Int) ∧ v13 = .int .i64 (E + (j : Int)) ∧ 0 < m ∧ M = m * 2 ^ j ∧ strip M E = strip m (E + (j : Int)) ∧ Below w.heap.size w wr)
set_option maxRecDepth 1000000 in
set_option maxHeartbeats 4000000 in
theorem showFloat_none (bits : Int) (hb : ¬ (bits = 32 ∨ bits = 64)) (v : Nat) (hv : v < 18446744073709551616) (w : World) :
    Calls Tryz.prog 14 #[.int .i64 bits, .int .u64 v] w fun e w' => e = .returned (.string ⟨(showF bits v).toArray⟩) ∧ Below w.heap.size w w' := by
  have hk : Fl.kindF bits v = 0 := by unfold Fl.kindF; rw [if_pos (by omega)]
  have hS : showF bits v = [] := by unfold showF; simp only [hk, if_true]
  have HK := Lib.hid (kind_c bits v hv w)
  rw [hS]
  rw [hk] at HK
  clear hS hk hb
  go_enter Tryz.func14, Tryz.ntmps14
  go_wp2_with (go_at_call 35; refine HK.out.mono ?_; rintro x w1 ⟨rfl, hb⟩; have HB := Lib.hid hb; clear hb)
  go_ret
  exact ⟨rfl, HB.out⟩
set_option maxRecDepth 1000000 in
set_option maxHeartbeats 4000000 in
theorem showFloat_64 (v : Nat) (hv : v < 18446744073709551616) (w : World) (ht : TW w) :
    Calls Tryz.prog 14 #[.int .i64 64, .int .u64 v] w fun e w' => e = .returned (.string ⟨(showF 64 v).toArray⟩) ∧ Below w.heap.size w w' := by
  have hkr := kind_rg 64 (.inr rfl) v
  obtain ⟨kd, hkd⟩ : ∃ kd, Fl.kindF 64 (v : Int) = kd := ⟨_, rfl⟩
  obtain ⟨R, hR⟩ : ∃ R, showF 64 v = R := ⟨_, rfl⟩
  have HK := Lib.hid (kind_c 64 v hv w)
  have HCA := Lib.hid (fun w => canon_c 64 (.inr rfl) w)
  obtain ⟨r, hr⟩ : ∃ r, Pure.roundF 64 false 1 4000 false = r := ⟨_, rfl⟩
  have HRD := Lib.hid (fun w => round_c 64 1 (by decide) _ _ r hr w)
  have hz1 : ((1 : Nat) : Int) = 1 := rfl
  rw [hz1] at HRD
  have hinf : infF 64 = r.1 := by unfold infF; rw [hr]
  obtain ⟨I, hI⟩ : ∃ I, infF 64 = I := ⟨_, rfl⟩
  have hI2 : r.1 = I := by rw [← hinf, hI]
  rw [hI2] at HRD
  obtain ⟨N, hN⟩ : ∃ N, Fl.canon 64 = N := ⟨_, rfl⟩
  rw [hN] at HCA
  rw [hR]
  unfold showF at hR
  rw [show (64 : Int).toNat = 64 from rfl] at hR
  rw [hkd] at hkr HK
  simp only [hkd, hN, hI] at hR
  have hs1 : bits .and .u64 ((v : Int) / 9223372036854775808) 1 = ((v / 2 ^ 63 % 2 : Nat) : Int) := and_one (v / 9223372036854775808) (by omega)
  have hp1 := and_63 v hv
  obtain ⟨sg, hsg⟩ : ∃ sg, signT 64 v = sg := ⟨_, rfl⟩
  rw [hsg] at hR
  have hsb : v / 2 ^ 63 % 2 = 0 ∨ v / 2 ^ 63 % 2 = 1 := by omega
  unfold signT at hsg
  rw [show 64 - 1 = 63 from rfl] at hsg
  generalize v / 2 ^ 63 % 2 = sb at *
  have HRR := Lib.hid hR
  have HT := Lib.hid ht
  have hk0 : (kd == 0) = false := by simp only [beq_eq_false_iff_ne, ne_eq]; omega
  have hpl : plainV 64 v < 18446744073709551616 := by
    have h1 := plain_lt 64 v
    have e : (2 : Nat) ^ (64 - 1) = 9223372036854775808 := rfl
    rw [e] at h1; omega
  have HP2 := Lib.hid (fun h2 : kd = 2 => parts_two 64 (.inr rfl) v hv (hkd.trans h2))
  rw [show (64 : Int).toNat = 64 from rfl] at HP2
  clear hr hz1 hinf hI2 hR hkd hI hN ht
  go_enter Tryz.func14, Tryz.ntmps14
  go_upto_if 26 with (go_at_call 35; refine HK.out.mono ?_; rintro x w1 ⟨rfl, hb⟩; have HB := Lib.hid hb; clear hb)
  go_cut [6] (fun v6 wc => v6 = .string ⟨sg.toArray⟩ ∧ Below w.heap.size w wc)
  case first =>
    rcases hsb with rfl | rfl
    · rw [if_neg (by omega)] at hsg
      subst hsg
      go_wp2
      go_meet
      case rel => exact ⟨rfl, HB.out⟩
    · rw [if_pos rfl] at hsg
      subst hsg
      go_wp2
      go_meet
      case rel => exact ⟨rfl, HB.out⟩
  case rest =>
    obtain ⟨rfl, hb3⟩ := hcut
    have HB3 := Lib.hid hb3
    have hsl : sg.length ≤ 1 := by rw [← hsg]; split <;> simp
    have hsz : (⟨sg.toArray⟩ : ByteArray).size = sg.length := size_arr sg
    clear hb3 hsb hsg hs1
    have hR := HRR.out
    clear HRR
    rw [if_neg (by omega)] at hR
    by_cases hk1 : kd = 1
    · rw [if_pos hk1] at hR
      have HRR := Lib.hid hR
      have hap : (⟨sg.toArray⟩ : ByteArray) ++ ⟨#[48, 120, 48, 112, 48]⟩ = ⟨(sg ++ [48, 120, 48, 112, 48]).toArray⟩ := ba_app1 sg [48, 120, 48, 112, 48]
      subst hk1
      clear hR hkr hk0 HK
      go_wp2_with (first | (go_at_call 36; refine (HCA.out _).mono ?_; rintro x w2 ⟨rfl, hb⟩; have HB4 := Lib.hid (below_step HB3.out hb); clear hb) | (go_at_call 37; refine (HRD.out _).mono ?_; rintro x w3 ⟨rfl, hb⟩; have HB5 := Lib.hid (below_step HB4.out hb); clear hb))
      go_ret
      exact ⟨by rw [← HRR.out, ← hap]; rfl, HB5.out⟩
    · rw [if_neg hk1] at hR
      have q1 : (kd == 1) = false := by simpa using hk1
      by_cases hk3 : kd = 3
      · rw [if_pos hk3] at hR
        have HRR := Lib.hid hR
        have hap : (⟨sg.toArray⟩ : ByteArray) ++ ⟨#[105, 110, 102]⟩ = ⟨(sg ++ [105, 110, 102]).toArray⟩ := ba_app1 sg [105, 110, 102]
        subst hk3
        clear hR hkr hk0 HK q1 hk1
        go_wp2_with (first | (go_at_call 36; refine (HCA.out _).mono ?_; rintro x w2 ⟨rfl, hb⟩; have HB4 := Lib.hid (below_step HB3.out hb); clear hb) | (go_at_call 37; refine (HRD.out _).mono ?_; rintro x w3 ⟨rfl, hb⟩; have HB5 := Lib.hid (below_step HB4.out hb); clear hb))
        go_ret
        exact ⟨by rw [← HRR.out, ← hap]; rfl, HB5.out⟩
      · rw [if_neg hk3] at hR
        have q3 : (kd == 3) = false := by simpa using hk3
        by_cases hcn : (plainV 64 v : Int) = N
        · rw [if_pos hcn] at hR
          have HRR := Lib.hid hR
          have hap : (⟨sg.toArray⟩ : ByteArray) ++ ⟨#[110, 97, 110]⟩ = ⟨(sg ++ [110, 97, 110]).toArray⟩ := ba_app1 sg [110, 97, 110]
          have q4 : ((plainV 64 v : Int) == N) = true := by simpa using hcn
          clear hR hkr hk0 HK hk1 hk3 hcn
          go_wp2_with (first | (go_at_call 36; refine (HCA.out _).mono ?_; rintro x w2 ⟨rfl, hb⟩; have HB4 := Lib.hid (below_step HB3.out hb); clear hb) | (go_at_call 37; refine (HRD.out _).mono ?_; rintro x w3 ⟨rfl, hb⟩; have HB5 := Lib.hid (below_step HB4.out hb); clear hb))
          go_ret
          exact ⟨by rw [← HRR.out, ← hap]; rfl, HB5.out⟩
        · rw [if_neg hcn] at hR
          have q4 : ((plainV 64 v : Int) == N) = false := by simpa using hcn
          by_cases hk4 : kd = 4
          · rw [if_pos hk4] at hR
            have HRR := Lib.hid hR
            have q5 : (kd == 4) = true := by simpa using hk4
            obtain ⟨n, hn⟩ : ∃ n : Nat, IntKind.u64.wrap ((plainV 64 v : Int) - I) = (n : Int) := ⟨_, (Int.toNat_of_nonneg (by rw [IntKind.wrap_u64]; omega)).symm⟩
            have hnl : n < 18446744073709551616 := by rw [IntKind.wrap_u64] at hn; omega
            rw [hn, Int.toNat_natCast] at HRR
            have hhl := hexT_len 16 n (by simpa using hnl) (by omega)
            have HFU := Lib.hid (fun w hd => fu_c n hnl w hd)
            obtain ⟨X, hX⟩ : ∃ X, hexT n = X := ⟨_, rfl⟩
            rw [hX] at HFU HRR hhl
            have hXs : (⟨X.toArray⟩ : ByteArray).size = X.length := size_arr X
            have hap : (⟨sg.toArray⟩ : ByteArray) ++ ⟨#[110, 97, 110, 58, 48, 120]⟩ = ⟨(sg ++ [110, 97, 110, 58, 48, 120]).toArray⟩ := ba_app1 sg [110, 97, 110, 58, 48, 120]
            have hap2 : (⟨(sg ++ [110, 97, 110, 58, 48, 120]).toArray⟩ : ByteArray) ++ ⟨X.toArray⟩ = ⟨(sg ++ [110, 97, 110, 58, 48, 120] ++ X).toArray⟩ := ba_app1 _ _
            have hps : (⟨(sg ++ [110, 97, 110, 58, 48, 120]).toArray⟩ : ByteArray).size = sg.length + 6 := by rw [size_arr]; simp
            clear hR hkr hk0 HK hk1 hk3 hcn hk4 hX hnl
            go_wp2_with (first | (go_at_call 36; refine (HCA.out _).mono ?_; rintro x w2 ⟨rfl, hb⟩; have HB4 := Lib.hid (below_step HB3.out hb); clear hb) | (go_at_call 37; refine (HRD.out _).mono ?_; rintro x w3 ⟨rfl, hb⟩; have HB5 := Lib.hid (below_step HB4.out hb); clear hb) | (go_at_call 38; refine (HFU.out _ (HT.out.below HB5.out).db).mono ?_; rintro x w4 ⟨rfl, hb⟩; have HB6 := Lib.hid (below_step HB5.out hb); clear hb))
            go_ret
            have e : sg ++ 110 :: 97 :: 110 :: 58 :: 48 :: 120 :: X = R := by rw [← HRR.out]; simp
            exact ⟨by rw [← e]; rfl, HB6.out⟩
          · rw [if_neg hk4] at hR
            have q5 : (kd == 4) = false := by simpa using hk4
            have hk2 : kd = 2 := by omega
            obtain ⟨M, E, hM, hM0, hMl, hE1, hE2⟩ := HP2.out hk2
            have HPA := Lib.hid (fun w => parts_c 64 (plainV 64 v) hpl _ hM w)
            rw [hM] at hR
            simp only [Int.toNat_natCast] at hR
            obtain ⟨sr, hsr⟩ : ∃ sr, strip M E = sr := ⟨_, rfl⟩
            rw [hsr] at hR
            have HRR := Lib.hid hR
            have HSR := Lib.hid hsr
            clear hR hkr hk0 HK hk1 hk3 hcn hk4 hk2 hM hsr
            go_upto_block 2 with (first | (go_at_call 36; refine (HCA.out _).mono ?_; rintro x w2 ⟨rfl, hb⟩; have HB4 := Lib.hid (below_step HB3.out hb); clear hb) | (go_at_call 37; refine (HRD.out _).mono ?_; rintro x w3 ⟨rfl, hb⟩; have HB5 := Lib.hid (below_step HB4.out hb); clear hb) | (go_at_call 39; refine (HPA.out _).mono ?_; rintro x w4 ⟨rfl, hb⟩; have HB6 := Lib.hid (below_step HB5.out hb); clear hb))
            go_loopw [12, 13] (SfR w M E) (fun v12 _ _ => numV v12)
            case atStart =>
              exact ⟨M, 0, rfl, by simp, hM0, by simp, by simp, HB6.out⟩
            case round =>
              obtain ⟨m, j, rfl, rfl, hm0, hMm, hst, hb7⟩ := hrel.out
              clear hrel
              rename World => W
              have hj := pow_bound m j hm0 (by rw [← hMm]; exact hMl)
              have hml : m < 18446744073709551616 := by
                have : m * 1 ≤ m * 2 ^ j := Nat.mul_le_mul_left _ (Nat.one_le_two_pow)
                omega
              have HB7 := Lib.hid hb7
              have HMM := Lib.hid hMm
              have HST := Lib.hid hst
              clear hb7 hMm hst
              by_cases hev : m % 2 = 0
              · have hevI : ((m : Int) % 2 == 0) = true := by simp only [beq_iff_eq]; omega
                go_wp2
                go_roundw
                case rel =>
                  refine ⟨m / 2, j + 1, by push_cast; rfl, by push_cast; congr 1; omega, by omega, ?_, ?_, HB7.out⟩
                  · rw [HMM.out, Nat.pow_succ, Nat.mul_comm (2 ^ j), ← Nat.mul_assoc]
                    congr 1
                    omega
                  · rw [HST.out, strip_even m _ hev hm0]
                    congr 1
                    push_cast
                    omega
                case measure =>
                  simp only [numV]
                  omega
              · have hod : strip M E = (m, E + (j : Int)) := by rw [HST.out, strip_odd m _ (by omega)]
                have hsr := HSR.out
                rw [hod] at hsr
                have hR := HRR.out
                rw [← hsr] at hR
                simp only at hR
                have hhl := hexT_len 16 m (by simpa using hml) (by omega)
                have HFU := Lib.hid (fun w hd => fu_c m hml w hd)
                obtain ⟨e, he⟩ : ∃ e, E + (j : Int) = e := ⟨_, rfl⟩
                have her : -1074 ≤ e ∧ e ≤ 2200 := by omega
                rw [he] at hR
                have HIT := Lib.hid (fun w ht => it_c e (by omega) w ht)
                have hil := Lib.itoa_length_le e (by omega) (by omega)
                obtain ⟨X, hX⟩ : ∃ X, hexT m = X := ⟨_, rfl⟩
                rw [hX] at HFU hR hhl
                obtain ⟨Y, hY⟩ : ∃ Y, Lib.itoa e = Y := ⟨_, rfl⟩
                rw [hY] at HIT hR hil
                have HR := Lib.hid hR
                have hXs : (⟨X.toArray⟩ : ByteArray).size = X.length := size_arr X
                have hYs : (⟨Y.toArray⟩ : ByteArray).size = Y.length := size_arr Y
                have a1 : (⟨sg.toArray⟩ : ByteArray) ++ ⟨#[48, 120]⟩ = ⟨(sg ++ [48, 120]).toArray⟩ := ba_app1 sg [48, 120]
                have a2 : (⟨(sg ++ [48, 120]).toArray⟩ : ByteArray) ++ ⟨X.toArray⟩ = ⟨(sg ++ [48, 120] ++ X).toArray⟩ := ba_app1 _ _
                have a3 : (⟨(sg ++ [48, 120] ++ X).toArray⟩ : ByteArray) ++ ⟨#[112]⟩ = ⟨(sg ++ [48, 120] ++ X ++ [112]).toArray⟩ := ba_app1 _ _
                have a4 : (⟨(sg ++ [48, 120] ++ X ++ [112]).toArray⟩ : ByteArray) ++ ⟨Y.toArray⟩ = ⟨(sg ++ [48, 120] ++ X ++ [112] ++ Y).toArray⟩ := ba_app1 _ _
                have s1 : (⟨(sg ++ [48, 120]).toArray⟩ : ByteArray).size = sg.length + 2 := by rw [size_arr]; simp
                have s2 : (⟨(sg ++ [48, 120] ++ X).toArray⟩ : ByteArray).size = sg.length + 2 + X.length := by rw [size_arr]; simp; omega
                have s3 : (⟨(sg ++ [48, 120] ++ X ++ [112]).toArray⟩ : ByteArray).size = sg.length + 2 + X.length + 1 := by rw [size_arr]; simp; omega
                have hodI : ((m : Int) % 2 == 0) = false := by simp only [beq_eq_false_iff_ne, ne_eq]; omega
                clear hsr hod hX hY hml hM0 hMl hE1 hE2 hm0 hj hR HRR hev
                go_wp2_with (first | (go_at_call 38; refine (HFU.out _ (HT.out.below HB7.out).db).mono ?_; rintro x w5 ⟨rfl, hb⟩; have HB8 := Lib.hid (below_step HB7.out hb); clear hb) | (go_at_call 40; refine (HIT.out _ (HT.out.below HB8.out)).mono ?_; rintro x w6 ⟨rfl, hb⟩; have HB9 := Lib.hid (below_step HB8.out hb); clear hb))
                go_ret
                have e : sg ++ 48 :: 120 :: X ++ [112] ++ Y = R := by rw [← HR.out]; simp
                have z1 := ba_app1 (sg ++ 48 :: 120 :: X) [112]
                have z2 := ba_app1 (sg ++ 48 :: 120 :: X ++ [112]) Y
                rw [e] at z2
                exact ⟨congrArg (fun b => Ending.returned (.string b)) ((congrArg (· ++ (⟨Y.toArray⟩ : ByteArray)) z1).trans z2), HB9.out⟩
set_option maxRecDepth 1000000 in
set_option maxHeartbeats 4000000 in
theorem showFloat_32 (v : Nat) (hv : v < 18446744073709551616) (w : World) (ht : TW w) :
    Calls Tryz.prog 14 #[.int .i64 32, .int .u64 v] w fun e w' => e = .returned (.string ⟨(showF 32 v).toArray⟩) ∧ Below w.heap.size w w' := by
  have hkr := kind_rg 32 (.inl rfl) v
  obtain ⟨kd, hkd⟩ : ∃ kd, Fl.kindF 32 (v : Int) = kd := ⟨_, rfl⟩
  obtain ⟨R, hR⟩ : ∃ R, showF 32 v = R := ⟨_, rfl⟩
  have HK := Lib.hid (kind_c 32 v hv w)
  have HCA := Lib.hid (fun w => canon_c 32 (.inl rfl) w)
  obtain ⟨r, hr⟩ : ∃ r, Pure.roundF 32 false 1 4000 false = r := ⟨_, rfl⟩
  have HRD := Lib.hid (fun w => round_c 32 1 (by decide) _ _ r hr w)
  have hz1 : ((1 : Nat) : Int) = 1 := rfl
  rw [hz1] at HRD
  have hinf : infF 32 = r.1 := by unfold infF; rw [hr]
  obtain ⟨I, hI⟩ : ∃ I, infF 32 = I := ⟨_, rfl⟩
  have hI2 : r.1 = I := by rw [← hinf, hI]
  rw [hI2] at HRD
  obtain ⟨N, hN⟩ : ∃ N, Fl.canon 32 = N := ⟨_, rfl⟩
  rw [hN] at HCA
  rw [hR]
  unfold showF at hR
  rw [show (32 : Int).toNat = 32 from rfl] at hR
  rw [hkd] at hkr HK
  simp only [hkd, hN, hI] at hR
  have hs1 : bits .and .u64 ((v : Int) / 2147483648) 1 = ((v / 2 ^ 31 % 2 : Nat) : Int) := and_one (v / 2147483648) (by omega)
  have hp1 := and_31 v hv
  obtain ⟨sg, hsg⟩ : ∃ sg, signT 32 v = sg := ⟨_, rfl⟩
  rw [hsg] at hR
  have hsb : v / 2 ^ 31 % 2 = 0 ∨ v / 2 ^ 31 % 2 = 1 := by omega
  unfold signT at hsg
  rw [show 32 - 1 = 31 from rfl] at hsg
  generalize v / 2 ^ 31 % 2 = sb at *
  have HRR := Lib.hid hR
  have HT := Lib.hid ht
  have hk0 : (kd == 0) = false := by simp only [beq_eq_false_iff_ne, ne_eq]; omega
  have hpl : plainV 32 v < 18446744073709551616 := by
    have h1 := plain_lt 32 v
    have e : (2 : Nat) ^ (32 - 1) = 2147483648 := rfl
    rw [e] at h1; omega
  have HP2 := Lib.hid (fun h2 : kd = 2 => parts_two 32 (.inl rfl) v hv (hkd.trans h2))
  rw [show (32 : Int).toNat = 32 from rfl] at HP2
  clear hr hz1 hinf hI2 hR hkd hI hN ht
  go_enter Tryz.func14, Tryz.ntmps14
  go_upto_if 26 with (go_at_call 35; refine HK.out.mono ?_; rintro x w1 ⟨rfl, hb⟩; have HB := Lib.hid hb; clear hb)
  go_cut [6] (fun v6 wc => v6 = .string ⟨sg.toArray⟩ ∧ Below w.heap.size w wc)
  case first =>
    rcases hsb with rfl | rfl
    · rw [if_neg (by omega)] at hsg
      subst hsg
      go_wp2
      go_meet
      case rel => exact ⟨rfl, HB.out⟩
    · rw [if_pos rfl] at hsg
      subst hsg
      go_wp2
      go_meet
      case rel => exact ⟨rfl, HB.out⟩
  case rest =>
    obtain ⟨rfl, hb3⟩ := hcut
    have HB3 := Lib.hid hb3
    have hsl : sg.length ≤ 1 := by rw [← hsg]; split <;> simp
    have hsz : (⟨sg.toArray⟩ : ByteArray).size = sg.length := size_arr sg
    clear hb3 hsb hsg hs1
    have hR := HRR.out
    clear HRR
    rw [if_neg (by omega)] at hR
    by_cases hk1 : kd = 1
    · rw [if_pos hk1] at hR
      have HRR := Lib.hid hR
      have hap : (⟨sg.toArray⟩ : ByteArray) ++ ⟨#[48, 120, 48, 112, 48]⟩ = ⟨(sg ++ [48, 120, 48, 112, 48]).toArray⟩ := ba_app1 sg [48, 120, 48, 112, 48]
      subst hk1
      clear hR hkr hk0 HK
      go_wp2_with (first | (go_at_call 36; refine (HCA.out _).mono ?_; rintro x w2 ⟨rfl, hb⟩; have HB4 := Lib.hid (below_step HB3.out hb); clear hb) | (go_at_call 37; refine (HRD.out _).mono ?_; rintro x w3 ⟨rfl, hb⟩; have HB5 := Lib.hid (below_step HB4.out hb); clear hb))
      go_ret
      exact ⟨by rw [← HRR.out, ← hap]; rfl, HB5.out⟩
    · rw [if_neg hk1] at hR
      have q1 : (kd == 1) = false := by simpa using hk1
      by_cases hk3 : kd = 3
      · rw [if_pos hk3] at hR
        have HRR := Lib.hid hR
        have hap : (⟨sg.toArray⟩ : ByteArray) ++ ⟨#[105, 110, 102]⟩ = ⟨(sg ++ [105, 110, 102]).toArray⟩ := ba_app1 sg [105, 110, 102]
        subst hk3
        clear hR hkr hk0 HK q1 hk1
        go_wp2_with (first | (go_at_call 36; refine (HCA.out _).mono ?_; rintro x w2 ⟨rfl, hb⟩; have HB4 := Lib.hid (below_step HB3.out hb); clear hb) | (go_at_call 37; refine (HRD.out _).mono ?_; rintro x w3 ⟨rfl, hb⟩; have HB5 := Lib.hid (below_step HB4.out hb); clear hb))
        go_ret
        exact ⟨by rw [← HRR.out, ← hap]; rfl, HB5.out⟩
      · rw [if_neg hk3] at hR
        have q3 : (kd == 3) = false := by simpa using hk3
        by_cases hcn : (plainV 32 v : Int) = N
        · rw [if_pos hcn] at hR
          have HRR := Lib.hid hR
          have hap : (⟨sg.toArray⟩ : ByteArray) ++ ⟨#[110, 97, 110]⟩ = ⟨(sg ++ [110, 97, 110]).toArray⟩ := ba_app1 sg [110, 97, 110]
          have q4 : ((plainV 32 v : Int) == N) = true := by simpa using hcn
          clear hR hkr hk0 HK hk1 hk3 hcn
          go_wp2_with (first | (go_at_call 36; refine (HCA.out _).mono ?_; rintro x w2 ⟨rfl, hb⟩; have HB4 := Lib.hid (below_step HB3.out hb); clear hb) | (go_at_call 37; refine (HRD.out _).mono ?_; rintro x w3 ⟨rfl, hb⟩; have HB5 := Lib.hid (below_step HB4.out hb); clear hb))
          go_ret
          exact ⟨by rw [← HRR.out, ← hap]; rfl, HB5.out⟩
        · rw [if_neg hcn] at hR
          have q4 : ((plainV 32 v : Int) == N) = false := by simpa using hcn
          by_cases hk4 : kd = 4
          · rw [if_pos hk4] at hR
            have HRR := Lib.hid hR
            have q5 : (kd == 4) = true := by simpa using hk4
            obtain ⟨n, hn⟩ : ∃ n : Nat, IntKind.u64.wrap ((plainV 32 v : Int) - I) = (n : Int) := ⟨_, (Int.toNat_of_nonneg (by rw [IntKind.wrap_u64]; omega)).symm⟩
            have hnl : n < 18446744073709551616 := by rw [IntKind.wrap_u64] at hn; omega
            rw [hn, Int.toNat_natCast] at HRR
            have hhl := hexT_len 16 n (by simpa using hnl) (by omega)
            have HFU := Lib.hid (fun w hd => fu_c n hnl w hd)
            obtain ⟨X, hX⟩ : ∃ X, hexT n = X := ⟨_, rfl⟩
            rw [hX] at HFU HRR hhl
            have hXs : (⟨X.toArray⟩ : ByteArray).size = X.length := size_arr X
            have hap : (⟨sg.toArray⟩ : ByteArray) ++ ⟨#[110, 97, 110, 58, 48, 120]⟩ = ⟨(sg ++ [110, 97, 110, 58, 48, 120]).toArray⟩ := ba_app1 sg [110, 97, 110, 58, 48, 120]
            have hap2 : (⟨(sg ++ [110, 97, 110, 58, 48, 120]).toArray⟩ : ByteArray) ++ ⟨X.toArray⟩ = ⟨(sg ++ [110, 97, 110, 58, 48, 120] ++ X).toArray⟩ := ba_app1 _ _
            have hps : (⟨(sg ++ [110, 97, 110, 58, 48, 120]).toArray⟩ : ByteArray).size = sg.length + 6 := by rw [size_arr]; simp
            clear hR hkr hk0 HK hk1 hk3 hcn hk4 hX hnl
            go_wp2_with (first | (go_at_call 36; refine (HCA.out _).mono ?_; rintro x w2 ⟨rfl, hb⟩; have HB4 := Lib.hid (below_step HB3.out hb); clear hb) | (go_at_call 37; refine (HRD.out _).mono ?_; rintro x w3 ⟨rfl, hb⟩; have HB5 := Lib.hid (below_step HB4.out hb); clear hb) | (go_at_call 38; refine (HFU.out _ (HT.out.below HB5.out).db).mono ?_; rintro x w4 ⟨rfl, hb⟩; have HB6 := Lib.hid (below_step HB5.out hb); clear hb))
            go_ret
            have e : sg ++ 110 :: 97 :: 110 :: 58 :: 48 :: 120 :: X = R := by rw [← HRR.out]; simp
            exact ⟨by rw [← e]; rfl, HB6.out⟩
          · rw [if_neg hk4] at hR
            have q5 : (kd == 4) = false := by simpa using hk4
            have hk2 : kd = 2 := by omega
            obtain ⟨M, E, hM, hM0, hMl, hE1, hE2⟩ := HP2.out hk2
            have HPA := Lib.hid (fun w => parts_c 32 (plainV 32 v) hpl _ hM w)
            rw [hM] at hR
            simp only [Int.toNat_natCast] at hR
            obtain ⟨sr, hsr⟩ : ∃ sr, strip M E = sr := ⟨_, rfl⟩
            rw [hsr] at hR
            have HRR := Lib.hid hR
            have HSR := Lib.hid hsr
            clear hR hkr hk0 HK hk1 hk3 hcn hk4 hk2 hM hsr
            go_upto_block 2 with (first | (go_at_call 36; refine (HCA.out _).mono ?_; rintro x w2 ⟨rfl, hb⟩; have HB4 := Lib.hid (below_step HB3.out hb); clear hb) | (go_at_call 37; refine (HRD.out _).mono ?_; rintro x w3 ⟨rfl, hb⟩; have HB5 := Lib.hid (below_step HB4.out hb); clear hb) | (go_at_call 39; refine (HPA.out _).mono ?_; rintro x w4 ⟨rfl, hb⟩; have HB6 := Lib.hid (below_step HB5.out hb); clear hb))
            go_loopw [12, 13] (SfR w M E) (fun v12 _ _ => numV v12)
            case atStart =>
              exact ⟨M, 0, rfl, by simp, hM0, by simp, by simp, HB6.out⟩
            case round =>
              obtain ⟨m, j, rfl, rfl, hm0, hMm, hst, hb7⟩ := hrel.out
              clear hrel
              rename World => W
              have hj := pow_bound m j hm0 (by rw [← hMm]; exact hMl)
              have hml : m < 18446744073709551616 := by
                have : m * 1 ≤ m * 2 ^ j := Nat.mul_le_mul_left _ (Nat.one_le_two_pow)
                omega
              have HB7 := Lib.hid hb7
              have HMM := Lib.hid hMm
              have HST := Lib.hid hst
              clear hb7 hMm hst
              by_cases hev : m % 2 = 0
              · have hevI : ((m : Int) % 2 == 0) = true := by simp only [beq_iff_eq]; omega
                go_wp2
                go_roundw
                case rel =>
                  refine ⟨m / 2, j + 1, by push_cast; rfl, by push_cast; congr 1; omega, by omega, ?_, ?_, HB7.out⟩
                  · rw [HMM.out, Nat.pow_succ, Nat.mul_comm (2 ^ j), ← Nat.mul_assoc]
                    congr 1
                    omega
                  · rw [HST.out, strip_even m _ hev hm0]
                    congr 1
                    push_cast
                    omega
                case measure =>
                  simp only [numV]
                  omega
              · have hod : strip M E = (m, E + (j : Int)) := by rw [HST.out, strip_odd m _ (by omega)]
                have hsr := HSR.out
                rw [hod] at hsr
                have hR := HRR.out
                rw [← hsr] at hR
                simp only at hR
                have hhl := hexT_len 16 m (by simpa using hml) (by omega)
                have HFU := Lib.hid (fun w hd => fu_c m hml w hd)
                obtain ⟨e, he⟩ : ∃ e, E + (j : Int) = e := ⟨_, rfl⟩
                have her : -1074 ≤ e ∧ e ≤ 2200 := by omega
                rw [he] at hR
                have HIT := Lib.hid (fun w ht => it_c e (by omega) w ht)
                have hil := Lib.itoa_length_le e (by omega) (by omega)
                obtain ⟨X, hX⟩ : ∃ X, hexT m = X := ⟨_, rfl⟩
                rw [hX] at HFU hR hhl
                obtain ⟨Y, hY⟩ : ∃ Y, Lib.itoa e = Y := ⟨_, rfl⟩
                rw [hY] at HIT hR hil
                have HR := Lib.hid hR
                have hXs : (⟨X.toArray⟩ : ByteArray).size = X.length := size_arr X
                have hYs : (⟨Y.toArray⟩ : ByteArray).size = Y.length := size_arr Y
                have a1 : (⟨sg.toArray⟩ : ByteArray) ++ ⟨#[48, 120]⟩ = ⟨(sg ++ [48, 120]).toArray⟩ := ba_app1 sg [48, 120]
                have a2 : (⟨(sg ++ [48, 120]).toArray⟩ : ByteArray) ++ ⟨X.toArray⟩ = ⟨(sg ++ [48, 120] ++ X).toArray⟩ := ba_app1 _ _
                have a3 : (⟨(sg ++ [48, 120] ++ X).toArray⟩ : ByteArray) ++ ⟨#[112]⟩ = ⟨(sg ++ [48, 120] ++ X ++ [112]).toArray⟩ := ba_app1 _ _
                have a4 : (⟨(sg ++ [48, 120] ++ X ++ [112]).toArray⟩ : ByteArray) ++ ⟨Y.toArray⟩ = ⟨(sg ++ [48, 120] ++ X ++ [112] ++ Y).toArray⟩ := ba_app1 _ _
                have s1 : (⟨(sg ++ [48, 120]).toArray⟩ : ByteArray).size = sg.length + 2 := by rw [size_arr]; simp
                have s2 : (⟨(sg ++ [48, 120] ++ X).toArray⟩ : ByteArray).size = sg.length + 2 + X.length := by rw [size_arr]; simp; omega
                have s3 : (⟨(sg ++ [48, 120] ++ X ++ [112]).toArray⟩ : ByteArray).size = sg.length + 2 + X.length + 1 := by rw [size_arr]; simp; omega
                have hodI : ((m : Int) % 2 == 0) = false := by simp only [beq_eq_false_iff_ne, ne_eq]; omega
                clear hsr hod hX hY hml hM0 hMl hE1 hE2 hm0 hj hR HRR hev
                go_wp2_with (first | (go_at_call 38; refine (HFU.out _ (HT.out.below HB7.out).db).mono ?_; rintro x w5 ⟨rfl, hb⟩; have HB8 := Lib.hid (below_step HB7.out hb); clear hb) | (go_at_call 40; refine (HIT.out _ (HT.out.below HB8.out)).mono ?_; rintro x w6 ⟨rfl, hb⟩; have HB9 := Lib.hid (below_step HB8.out hb); clear hb))
                go_ret
                have e : sg ++ 48 :: 120 :: X ++ [112] ++ Y = R := by rw [← HR.out]; simp
                have z1 := ba_app1 (sg ++ 48 :: 120 :: X) [112]
                have z2 := ba_app1 (sg ++ 48 :: 120 :: X ++ [112]) Y
                rw [e] at z2
                exact ⟨congrArg (fun b => Ending.returned (.string b)) ((congrArg (· ++ (⟨Y.toArray⟩ : ByteArray)) z1).trans z2), HB9.out⟩
theorem showFloat_c (bits : Int) (v : Nat) (hv : v < 18446744073709551616) (w : World) (ht : TW w) :
    Calls Tryz.prog 14 #[.int .i64 bits, .int .u64 v] w fun e w' => e = .returned (.string ⟨(showF bits v).toArray⟩) ∧ Below w.heap.size w w' := by
  by_cases hb : bits = 32 ∨ bits = 64
  · rcases hb with rfl | rfl
    · exact showFloat_32 v hv w ht
    · exact showFloat_64 v hv w ht
  · exact showFloat_none bits hb v hv w
end Go.Proofs.YtjecdciabpjgcaaGreatDoor.Lz
namespace Go.Proofs.YtjecdciabpjgcaaGreatDoor.Lz
set_option linter.unusedVariables false
set_option linter.unusedSimpArgs false
open Go.RowKit Go.Proofs.YtjecdciabpjgcaaGreatDoorW.PrintWords Go.Proofs.YtjecdciabpjgcaaGreatDoor.Lx Go.Proofs.YtjecdciabpjgcaaGreatDoor.PLz
def good : List UInt8 → Bool
  | [] => true
  | a :: q => (!isdec a || (match q with | [] => false | b :: _ => !isdec b && b != 95)) && good q
theorem con_cons (a b : UInt8) (l : List UInt8) : Lib.contains (a :: b :: l) [95, 95] = ((a == 95 && b == 95) || Lib.contains (b :: l) [95, 95]) := by
  have hg := Lib.index_ge (b :: l) [95, 95]
  unfold Lib.contains
  conv => lhs; unfold Lib.index
  by_cases h : [95, 95].isPrefixOf (a :: b :: l) = true
  · rw [if_pos h]
    have : (a == 95 && b == 95) = true := by
      simp only [List.isPrefixOf, Bool.and_true, Bool.and_eq_true, beq_iff_eq] at h
      simp [← h.1, ← h.2]
    rw [this]
    rfl
  · rw [if_neg h]
    have : (a == 95 && b == 95) = false := by
      cases hh : (a == 95 && b == 95) with
      | false => rfl
      | true =>
        simp only [Bool.and_eq_true, beq_iff_eq] at hh
        rw [hh.1, hh.2] at h
        exact absurd rfl h
    rw [this, Bool.false_or]
    by_cases g : Lib.index (b :: l) [95, 95] = -1
    · rw [if_pos (by simpa using g), g]
    · rw [if_neg (by simpa using g)]
      rw [Bool.eq_iff_iff]
      simp only [decide_eq_true_eq]
      omega
theorem dw_drop (p : UInt8 → Bool) : ∀ l : List UInt8, l.dropWhile p = l.drop (l.takeWhile p).length
  | [] => rfl
  | a :: l => by
    by_cases h : p a = true
    · rw [List.dropWhile_cons_of_pos h, List.takeWhile_cons_of_pos h, List.length_cons, List.drop_succ_cons, dw_drop p l]
    · rw [List.dropWhile_cons_of_neg h, List.takeWhile_cons_of_neg h]; rfl
theorem powF_dw (hex : Bool) (t : List UInt8) : powF hex t = match t.dropWhile (noMk hex) with | [] => [48] | _ :: r => r := by
  unfold powF
  rw [dw_drop]
  have hle := (List.takeWhile_sublist (noMk hex) (l := t)).length_le
  split
  · rename_i h
    cases hd : t.drop (t.takeWhile (noMk hex)).length with
    | nil => rw [List.drop_eq_nil_iff] at hd; omega
    | cons a r =>
      have := congrArg (List.drop 1) hd
      rw [List.drop_drop] at this
      exact this
  · rename_i h
    rw [List.drop_eq_nil_iff.2 (by omega)]
theorem idx_one : ∀ (l : List UInt8) (c : UInt8), Lib.index l [c] = if c ∈ l then ((l.takeWhile (· != c)).length : Int) else -1
  | [], c => rfl
  | a :: l, c => by
    unfold Lib.index
    by_cases h : a = c
    · subst h
      rw [if_pos (by simp)]
      simp
    · rw [if_neg (by simp; exact fun e => h e.symm), idx_one l c]
      have hb : (a != c) = true := by simpa using h
      rw [List.takeWhile_cons_of_pos (p := fun x => x != c) hb]
      by_cases g : c ∈ l
      · have hm : c ∈ a :: l := List.mem_cons_of_mem _ g
        rw [if_pos hm, if_pos g, if_neg (fun h => by have := eq_of_beq h; omega)]
        simp
      · have hm : ¬ c ∈ a :: l := fun h' => by
          rcases List.mem_cons.1 h' with h' | h'
          · exact h h'.symm
          · exact g h'
        rw [if_neg hm, if_neg g]
        rfl
theorem tw_all (p : UInt8 → Bool) : ∀ l : List UInt8, (∀ c ∈ l, p c = true) → l.takeWhile p = l ∧ l.dropWhile p = []
  | [], _ => ⟨rfl, rfl⟩
  | a :: l, h => by
    have ha := h a (by simp)
    obtain ⟨h1, h2⟩ := tw_all p l (fun c hc => h c (by simp [hc]))
    rw [List.takeWhile_cons_of_pos ha, List.dropWhile_cons_of_pos ha, h1, h2]
    exact ⟨rfl, rfl⟩
theorem cut_dw (l : List UInt8) (c : UInt8) : (Lib.cut l [c]).1 = l.takeWhile (· != c) ∧ (Lib.cut l [c]).2.1 = (l.dropWhile (· != c)).tail := by
  unfold Lib.cut
  rw [idx_one, dw_drop]
  by_cases g : c ∈ l
  · rw [if_pos g, if_pos (by omega)]
    simp only [Int.toNat_natCast, List.length_singleton]
    refine ⟨?_, ?_⟩
    · exact (List.prefix_iff_eq_take.1 (List.takeWhile_prefix (· != c) (l := l))).symm
    · rw [List.tail_drop]
  · rw [if_neg g, if_neg (by decide)]
    have hall : ∀ x ∈ l, (x != c) = true := fun x hx => by simp; rintro rfl; exact g hx
    rw [(tw_all _ l hall).1]
    simp
theorem drop_end (p l : List UInt8) (hp : p.getLast? ≠ some 95) (h : Lib.hasPrefix (l ++ [95]) p = true) : ∃ m, (l ++ [95]).drop p.length = m ++ [95] := by
  unfold Lib.hasPrefix at h
  rw [List.isPrefixOf_iff_prefix] at h
  obtain ⟨r, hr⟩ := h
  rw [← hr, List.drop_left]
  have hl := congrArg List.getLast? hr
  rw [List.getLast?_append, List.getLast?_append] at hl
  simp only [List.getLast?_singleton, Option.some_or] at hl
  cases hg : r.getLast? with
  | none => rw [hg] at hl; simp only [Option.none_or] at hl; exact absurd hl hp
  | some x =>
    rw [hg] at hl
    simp only [Option.some_or] at hl
    rw [hl] at hg
    obtain ⟨s, rfl⟩ := List.getLast?_eq_some_iff.1 hg
    exact ⟨s, rfl⟩
theorem sign_plus (l : List UInt8) : signF (43 :: l) = (false, l) := by
  unfold signF Lib.trimPrefix
  rw [if_neg (by simp [Lib.hasPrefix, List.isPrefixOf]), if_pos (by simp [Lib.hasPrefix, List.isPrefixOf])]; rfl
theorem sign_minus (l : List UInt8) : signF (45 :: l) = (true, l) := by
  unfold signF
  rw [if_pos (by simp [Lib.hasPrefix, List.isPrefixOf])]; rfl
theorem sign_none (a : UInt8) (l : List UInt8) (h1 : a ≠ 43) (h2 : a ≠ 45) : signF (a :: l) = (false, a :: l) := by
  unfold signF Lib.trimPrefix
  rw [if_neg (by simp [Lib.hasPrefix, List.isPrefixOf]; exact fun e => h2 e.symm), if_neg (by simp [Lib.hasPrefix, List.isPrefixOf]; exact fun e => h1 e.symm)]
def topI (bits : Int) : Int := if bits = 32 then 2147483648 else 9223372036854775808
theorem topI_inf (bits : Int) (hb : bits = 32 ∨ bits = 64) : 0 ≤ infF bits ∧ infF bits < topI bits ∧ Fl.canon bits < topI bits ∧ 0 ≤ Fl.canon bits := by
  rcases hb with rfl | rfl <;> decide +kernel
theorem roundF_nn (n : Int) (neg : Bool) (m : Nat) (e : Int) (more : Bool) : 0 ≤ (Pure.roundF n neg m e more).1 := by
  unfold Pure.roundF
  split <;> simp
theorem binF_nn (bits : Int) (l : List UInt8) (e : Int) : 0 ≤ binF bits l e := by
  unfold binF
  split <;> exact roundF_nn _ _ _ _ _
theorem decF_nn (bits : Int) (l : List UInt8) (e : Int) : 0 ≤ decF bits l e := by
  unfold decF decQ
  dsimp only
  split
  · exact Int.le_refl _
  · split
    · exact roundF_nn _ _ _ _ _
    · exact roundF_nn _ _ _ _ _
theorem nan_arith (bits : Int) (hb : bits = 32 ∨ bits = 64) (n : Nat) (h : (n : Int) < IntKind.u64.wrap (IntKind.u64.wrap (Fl.canon bits - infF bits) * 2)) :
    ∃ v : Nat, Go.bits .or .u64 (infF bits) (n : Int) = (v : Int) ∧ (v : Int) < topI bits := by
  rcases hb with rfl | rfl
  · have e : IntKind.u64.wrap (IntKind.u64.wrap (Fl.canon 32 - infF 32) * 2) = 8388608 := by decide +kernel
    rw [e] at h
    have ei : infF 32 = ((2139095040 : Nat) : Int) := by decide +kernel
    rw [ei, bits_or_u64_nat 2139095040 n (by omega) (by omega)]
    refine ⟨_, rfl, ?_⟩
    have := Nat.or_lt_two_pow (x := 2139095040) (y := n) (n := 31) (by decide) (by omega)
    unfold topI
    simp only [if_true]
    omega
  · have e : IntKind.u64.wrap (IntKind.u64.wrap (Fl.canon 64 - infF 64) * 2) = 4503599627370496 := by decide +kernel
    rw [e] at h
    have ei : infF 64 = ((9218868437227405312 : Nat) : Int) := by decide +kernel
    rw [ei, bits_or_u64_nat 9218868437227405312 n (by omega) (by omega)]
    refine ⟨_, rfl, ?_⟩
    have := Nat.or_lt_two_pow (x := 9218868437227405312) (y := n) (n := 63) (by decide) (by omega)
    unfold topI
    rw [if_neg (by decide)]
    omega
theorem mag_rg (bits : Int) (hb : bits = 32 ∨ bits = 64) (l : List UInt8) (h : (magF bits l).2 = true) : 0 ≤ (magF bits l).1 ∧ (magF bits l).1 < topI bits := by
  obtain ⟨t1, t2, t3, t4⟩ := topI_inf bits hb
  revert h
  unfold magF
  split
  · intro; exact ⟨t1, t2⟩
  · split
    · intro; exact ⟨t4, t3⟩
    · split
      · intro h
        unfold nanF at h ⊢
        simp only [Bool.and_eq_true, decide_eq_true_eq] at h ⊢
        obtain ⟨v, hv, hl⟩ := nan_arith bits hb _ h.2
        unfold nanF.bits_or
        rw [hv]
        exact ⟨by omega, hl⟩
      · unfold numF
        simp only
        split
        · intro h
          have h := of_decide_eq_true h
          refine ⟨?_, by omega⟩
          split
          · exact binF_nn _ _ _
          · exact decF_nn _ _ _
        · intro h; cases h
theorem topv_or (v k : Nat) (h : v < 2 ^ k) : v ||| 2 ^ k = v + 2 ^ k := by
  have := Nat.two_pow_add_eq_or_of_lt h 1
  rw [Nat.mul_one] at this
  rw [Nat.or_comm, ← this, Nat.add_comm]
/-- The three readings of a text without a sign. -/
theorem signs3 (bits : Int) (a : UInt8) (l : List UInt8) (h1 : a ≠ 43) (h2 : a ≠ 45) :
    floatF bits (43 :: a :: l) = floatF bits (a :: l) ∧ (floatF bits (45 :: a :: l)).2 = (floatF bits (a :: l)).2 ∧
      ((floatF bits (a :: l)).2 = true → (bits = 32 ∨ bits = 64) ∧ 0 ≤ (floatF bits (a :: l)).1 ∧ (floatF bits (a :: l)).1 < topI bits ∧ (floatF bits (45 :: a :: l)).1 = (floatF bits (a :: l)).1 + topI bits) := by
  unfold floatF
  rw [sign_plus, sign_minus, sign_none a l h1 h2]
  simp only
  by_cases hb : bits = 32 ∨ bits = 64
  · simp only [if_pos hb]
    by_cases hm : (magF bits (a :: l)).2 = true
    · simp only [if_pos hm]
      obtain ⟨r1, r2⟩ := mag_rg bits hb _ hm
      refine ⟨trivial, trivial, fun _ => ⟨hb, ?_⟩⟩
      generalize (magF bits (a :: l)).1 = v at *
      obtain ⟨v, rfl⟩ : ∃ n : Nat, v = (n : Int) := ⟨v.toNat, by omega⟩
      have u0 : upF bits false = ((0 : Nat) : Int) := rfl
      have u1 : upF bits true = topI bits := rfl
      rw [u0, u1]
      rcases hb with rfl | rfl
      · have t32 : topI 32 = ((2 ^ 31 : Nat) : Int) := rfl
        rw [t32] at r2 ⊢
        rw [bits_or_u64_nat v 0 (by omega) (by omega), bits_or_u64_nat v (2 ^ 31) (by omega) (by decide), Nat.or_zero, topv_or v 31 (by omega)]
        omega
      · have t64 : topI 64 = ((2 ^ 63 : Nat) : Int) := rfl
        rw [t64] at r2 ⊢
        rw [bits_or_u64_nat v 0 (by omega) (by omega), bits_or_u64_nat v (2 ^ 63) (by omega) (by decide), Nat.or_zero, topv_or v 63 (by omega)]
        omega
    · simp only [if_neg hm]
      exact ⟨trivial, trivial, fun h => by cases h⟩
  · simp only [if_neg hb]
    exact ⟨trivial, trivial, fun h => by cases h⟩
end Go.Proofs.YtjecdciabpjgcaaGreatDoor.Lz
namespace Go.Proofs.YtjecdciabpjgcaaGreatDoor.Lz
set_option linter.unusedVariables false
set_option linter.unusedSimpArgs false
open Go.RowKit Go.Proofs.YtjecdciabpjgcaaGreatDoorW.PrintWords Go.Proofs.YtjecdciabpjgcaaGreatDoor.Lx Go.Proofs.YtjecdciabpjgcaaGreatDoor.PLz
theorem con_mem : ∀ l : List UInt8, Lib.contains l [95, 95] = true → (95 : UInt8) ∈ l
  | [], h => by exact absurd h (by decide)
  | [a], h => by
    exfalso
    revert h
    unfold Lib.contains Lib.index
    rw [if_neg (by simp [List.isPrefixOf])]
    simp [Lib.index]
  | a :: b :: l, h => by
    rw [con_cons, Bool.or_eq_true] at h
    rcases h with h | h
    · simp only [Bool.and_eq_true, beq_iff_eq] at h
      simp [h.1]
    · exact List.mem_cons_of_mem _ (con_mem (b :: l) h)
theorem dig_ne (hex : Bool) (c : UInt8) (h : isdig hex c = true) : c ≠ 95 := by
  rintro rfl
  revert h
  cases hex <;> decide
theorem rowF_ok (l : List UInt8) (hex : Bool) (hne : l ≠ []) (h : ∀ c ∈ l, isdig hex c = true) : rowF l hex = (l, true) := by
  have h95 : (95 : UInt8) ∉ l := fun hm => dig_ne hex 95 (h 95 hm) rfl
  have hd : digs l = l := by
    unfold digs
    rw [List.filter_eq_self]
    intro c hc
    simpa using dig_ne hex c (h c hc)
  have ho : odd l = false := by
    unfold odd
    have h1 : Lib.hasPrefix l [95] = false := by
      cases l with
      | nil => exact absurd rfl hne
      | cons a t =>
        have : (95 : UInt8) ≠ a := by rintro rfl; exact h95 (by simp)
        simp [Lib.hasPrefix, List.isPrefixOf, this]
    have h2 : Lib.hasSuffix l [95] = false := by
      cases hh : Lib.hasSuffix l [95] with
      | false => rfl
      | true =>
        unfold Lib.hasSuffix at hh
        rw [List.isSuffixOf_iff_suffix] at hh
        obtain ⟨s, rfl⟩ := hh
        exact absurd (by simp) h95
    have h3 : Lib.contains l [95, 95] = false := by
      cases hh : Lib.contains l [95, 95] with
      | false => rfl
      | true => exact absurd (con_mem l hh) h95
    rw [h1, h2, h3]
    rfl
  unfold rowF
  rw [hd, if_pos (List.all_eq_true.2 h), ho]
  cases l with
  | nil => exact absurd rfl hne
  | cons a t => rfl
theorem numK_app (b : Nat) : ∀ (l : List UInt8) (c : UInt8) (n : Nat), numK b (l ++ [c]) n = (numK b l n).bind fun m => if (18446744073709551615 - dval c) / b < m then none else some (m * b + dval c)
  | [], c, n => rfl
  | a :: l, c, n => by
    rw [List.cons_append]
    unfold numK
    split
    · rfl
    · exact numK_app b l c _
theorem hxd_ok : ∀ d, d < 16 → dval (hxd d) = d ∧ ishex (hxd d) = true ∧ noMk true (hxd d) = true ∧ (hxd d != 46) = true ∧ (0 < d → hxd d ≠ 48) := by decide
theorem dcd_ok : ∀ d, d < 10 → dval (UInt8.ofNat (48 + d)) = d ∧ isdec (UInt8.ofNat (48 + d)) = true ∧ (UInt8.ofNat (48 + d)).toNat - 48 = d ∧ UInt8.ofNat (48 + d) ≠ 43 ∧ UInt8.ofNat (48 + d) ≠ 45 ∧ UInt8.ofNat (48 + d) ≠ 120 := by decide
theorem hexT_all (P : UInt8 → Prop) (hP : ∀ d, d < 16 → P (hxd d)) : ∀ n, ∀ c ∈ hexT n, P c := by
  intro n
  induction n using Nat.strongRecOn with
  | _ n ih =>
    intro c hc
    by_cases h : n < 16
    · rw [hexT_lt n h, List.mem_singleton] at hc
      rw [hc]; exact hP n h
    · rw [hexT_ge n (by omega), List.mem_append, List.mem_singleton] at hc
      rcases hc with hc | hc
      · exact ih (n / 16) (by omega) c hc
      · rw [hc]; exact hP _ (Nat.mod_lt _ (by omega))
theorem hexT_ne (n : Nat) : hexT n ≠ [] := by
  by_cases h : n < 16
  · rw [hexT_lt n h]; simp
  · rw [hexT_ge n (by omega)]; simp
theorem hexT_head : ∀ n, 0 < n → ∃ c t, hexT n = c :: t ∧ c ≠ 48 := by
  intro n
  induction n using Nat.strongRecOn with
  | _ n ih =>
    intro h0
    by_cases h : n < 16
    · rw [hexT_lt n h]; exact ⟨_, _, rfl, (hxd_ok n h).2.2.2.2 h0⟩
    · obtain ⟨c, t, h1, h2⟩ := ih (n / 16) (by omega) (by omega)
      rw [hexT_ge n (by omega), h1]
      exact ⟨c, _, rfl, h2⟩
theorem hexT_num : ∀ n, n < 18446744073709551616 → numK 16 (hexT n) 0 = some n := by
  intro n
  induction n using Nat.strongRecOn with
  | _ n ih =>
    intro hn
    by_cases h : n < 16
    · rw [hexT_lt n h]
      unfold numK numK
      rw [(hxd_ok n h).1, if_neg (by omega)]
      simp
    · rw [hexT_ge n (by omega), numK_app, ih (n / 16) (by omega) (by omega), Option.bind_some, (hxd_ok (n % 16) (Nat.mod_lt _ (by omega))).1, if_neg (by omega)]
      congr 1
      omega
theorem decT_lt (n : Nat) (h : n < 10) : Lib.decDigits n = [UInt8.ofNat (48 + n)] := by rw [Lib.decDigits, dif_pos h]
theorem decT_ge (n : Nat) (h : ¬ n < 10) : Lib.decDigits n = Lib.decDigits (n / 10) ++ [UInt8.ofNat (48 + n % 10)] := by rw [Lib.decDigits, dif_neg h]
theorem decT_all (P : UInt8 → Prop) (hP : ∀ d, d < 10 → P (UInt8.ofNat (48 + d))) : ∀ n, ∀ c ∈ Lib.decDigits n, P c := by
  intro n
  induction n using Nat.strongRecOn with
  | _ n ih =>
    intro c hc
    by_cases h : n < 10
    · rw [decT_lt n h, List.mem_singleton] at hc
      rw [hc]; exact hP n h
    · rw [decT_ge n h, List.mem_append, List.mem_singleton] at hc
      rcases hc with hc | hc
      · exact ih (n / 10) (by omega) c hc
      · rw [hc]; exact hP _ (Nat.mod_lt _ (by omega))
theorem decT_ne (n : Nat) : Lib.decDigits n ≠ [] := by
  by_cases h : n < 10
  · rw [decT_lt n h]; simp
  · rw [decT_ge n h]; simp
theorem decT_num : ∀ n, n < 18446744073709551616 → numK 10 (Lib.decDigits n) 0 = some n := by
  intro n
  induction n using Nat.strongRecOn with
  | _ n ih =>
    intro hn
    by_cases h : n < 10
    · rw [decT_lt n h]
      unfold numK numK
      rw [(dcd_ok n h).1, if_neg (by omega)]
      simp
    · rw [decT_ge n h, numK_app, ih (n / 10) (by omega) (by omega), Option.bind_some, (dcd_ok (n % 10) (Nat.mod_lt _ (by omega))).1, if_neg (by omega)]
      congr 1
      omega
theorem expF_app : ∀ (l : List UInt8) (c : UInt8) (e : Nat), expF e (l ++ [c]) = min (10 * expF e l + (c.toNat - 48)) 1000000000
  | [], c, e => rfl
  | a :: l, c, e => by
    show expF _ (l ++ [c]) = _
    rw [expF_app l c]
    rfl
theorem decT_exp : ∀ n, n ≤ 1000000000 → expF 0 (Lib.decDigits n) = n := by
  intro n
  induction n using Nat.strongRecOn with
  | _ n ih =>
    intro hn
    by_cases h : n < 10
    · rw [decT_lt n h]
      show min (10 * 0 + ((UInt8.ofNat (48 + n)).toNat - 48)) 1000000000 = n
      rw [(dcd_ok n h).2.2.1]
      omega
    · rw [decT_ge n h, expF_app, ih (n / 10) (by omega) (by omega), (dcd_ok (n % 10) (Nat.mod_lt _ (by omega))).2.2.1]
      omega
theorem decT_head (n : Nat) : ∃ c t, Lib.decDigits n = c :: t ∧ isdec c = true ∧ c ≠ 43 ∧ c ≠ 45 := by
  cases h : Lib.decDigits n with
  | nil => exact absurd h (decT_ne n)
  | cons c t =>
    refine ⟨c, t, rfl, ?_⟩
    have := decT_all (fun c => isdec c = true ∧ c ≠ 43 ∧ c ≠ 45) (fun d hd => ⟨(dcd_ok d hd).2.1, (dcd_ok d hd).2.2.2.1, (dcd_ok d hd).2.2.2.2.1⟩) n c (by rw [h]; simp)
    exact this
theorem sign_dec (n : Nat) : signF (Lib.decDigits n) = (false, Lib.decDigits n) := by
  obtain ⟨c, t, h, _, h1, h2⟩ := decT_head n
  rw [h]
  exact sign_none c t h1 h2
theorem sign_itoa (n : Int) : signF (Lib.itoa n) = (decide (n < 0), Lib.decDigits n.natAbs) := by
  unfold Lib.itoa
  by_cases h : n < 0
  · rw [if_pos h, sign_minus, decide_eq_true h]
  · rw [if_neg h, sign_dec, decide_eq_false h, show n.toNat = n.natAbs by omega]
theorem row_dec (n : Nat) : rowF (Lib.decDigits n) false = (Lib.decDigits n, true) :=
  rowF_ok _ false (decT_ne n) (decT_all (fun c => isdig false c = true) (fun d hd => (dcd_ok d hd).2.1) n)
theorem row_hexT (n : Nat) : rowF (hexT n) true = (hexT n, true) :=
  rowF_ok _ true (hexT_ne n) (hexT_all (fun c => isdig true c = true) (fun d hd => (hxd_ok d hd).2.1) n)
/-- Hex digits, a p, and an exponent. -/
theorem num_show (bits : Int) (m : Nat) (e : Int) (hm0 : 0 < m) (hm : m < 18446744073709551616) (he : e.natAbs ≤ 1000000000) (N : Int) (hN : (Pure.roundF bits false m e false).1 = N) :
    numF bits true (hexT m ++ 112 :: Lib.itoa e) = (N, decide (N < infF bits)) := by
  have hall := hexT_all (fun c => noMk true c = true) (fun d hd => (hxd_ok d hd).2.2.1) m
  have tw : (hexT m ++ 112 :: Lib.itoa e).takeWhile (noMk true) = hexT m := by
    rw [List.takeWhile_append_of_pos hall, List.takeWhile_cons_of_neg (by decide), List.append_nil]
  have dw : (hexT m ++ 112 :: Lib.itoa e).dropWhile (noMk true) = 112 :: Lib.itoa e := by
    rw [List.dropWhile_append_of_pos hall, List.dropWhile_cons_of_neg (by decide)]
  have hpw : powF true (hexT m ++ 112 :: Lib.itoa e) = Lib.itoa e := by rw [powF_dw, dw]
  have hmn : manF true (hexT m ++ 112 :: Lib.itoa e) = hexT m := tw
  have hall2 := hexT_all (fun c => (c != 46) = true) (fun d hd => (hxd_ok d hd).2.2.2.1) m
  obtain ⟨c1, c2⟩ := cut_dw (hexT m) 46
  have tw2 : (hexT m).takeWhile (· != 46) = hexT m := (tw_all _ _ hall2).1
  have dw2 : (hexT m).dropWhile (· != 46) = [] := (tw_all _ _ hall2).2
  rw [tw2] at c1
  rw [dw2] at c2
  obtain ⟨c, t, hc, hc0⟩ := hexT_head m hm0
  have htz : tz (hexT m) = hexT m := by unfold tz; rw [hc, List.dropWhile_cons_of_neg (by simpa using hc0)]
  have hlen := hexT_len 16 m (by simpa using hm) (by omega)
  have r0 : rowF [] true = ([], false) := by decide
  have hb : binF bits (hexT m) e = N := by
    unfold binF
    rw [htz, if_neg (by omega)]
    unfold numN
    rw [hexT_num m hm]
    exact hN
  unfold numF
  simp only [hpw, hmn, c1, c2, List.tail_nil, r0, row_hexT, sign_itoa, row_dec, decT_exp _ he]
  rw [if_pos ⟨trivial, .inr trivial, trivial⟩]
  have ee : (if decide (e < 0) = true then -(e.natAbs : Int) else (e.natAbs : Int)) = e := by
    by_cases h : e < 0
    · rw [if_pos (decide_eq_true h)]; omega
    · rw [if_neg (by rw [decide_eq_false h]; exact Bool.false_ne_true)]; omega
  rw [ee, if_pos True.intro, List.append_nil, List.length_nil, show e - 4 * ((0 : Nat) : Int) = e by omega, hb]
theorem strip_spec : ∀ (m : Nat) (e : Int), 0 < m → ∃ j : Nat, m = (strip m e).1 * 2 ^ j ∧ (strip m e).2 = e + (j : Int) ∧ 0 < (strip m e).1 := by
  intro m
  induction m using Nat.strongRecOn with
  | _ m ih =>
    intro e h0
    by_cases h : m % 2 = 0
    · obtain ⟨j, h1, h2, h3⟩ := ih (m / 2) (by omega) (e + 1) (by omega)
      rw [strip_even m e h h0]
      refine ⟨j + 1, ?_, by rw [h2]; omega, h3⟩
      rw [Nat.pow_succ, ← Nat.mul_assoc, ← h1]
      omega
    · rw [strip_odd m e (by omega)]
      exact ⟨0, by simp, by simp, h0⟩
/-- What is plain of a number's word: its parts, without their twos, rounded again. -/
theorem parts_back {n p q : Int} {f : Ieee.Format} (S : Pure.Sz n p q f) (A : Nat) (hA : A < f.signWeight) (h0 : Fl.rungOf f A ≠ 0) (hi : Fl.rungOf f A < f.infRung) :
    ∃ m e, strip (Fl.magOf f (Fl.rungOf f A)) (f.leastPlace + (Fl.plOf f (Fl.rungOf f A) : Int)) = (m, e) ∧ 0 < m ∧ m < 18446744073709551616 ∧ e.natAbs ≤ 10000 ∧ (Pure.roundF n false m e false).1 = (A : Int) := by
  have hb := Pure.bin_ok S.pq
  have hml := Fl.mag_lt f (Fl.rungOf f A)
  have hng : Fl.negOf f A = false := by unfold Fl.negOf; rw [Nat.div_eq_of_lt hA]; rfl
  have hw := Pure.nearest_word f A (by omega) hb hi
  rw [hng] at hw
  have hbb : 2 * f.binade < 18446744073709551616 ∧ -1074 ≤ f.leastPlace ∧ f.leastPlace ≤ 0 ∧ Fl.plOf f (Fl.rungOf f A) ≤ 2046 := by
    rcases S.pq with ⟨_, _, rfl⟩ | ⟨_, _, rfl⟩
    · rw [Fl.s_bin, Fl.s_least]
      refine ⟨by decide, by decide, by decide, ?_⟩
      unfold Fl.plOf
      rw [Fl.s_bin]
      rw [Fl.s_inf] at hi
      omega
    · rw [Fl.d_bin, Fl.d_least]
      refine ⟨by decide, by decide, by decide, ?_⟩
      unfold Fl.plOf
      rw [Fl.d_bin]
      rw [Fl.d_inf] at hi
      omega
  have hm0 : 0 < Fl.magOf f (Fl.rungOf f A) := by
    have : 0 < f.binade := Fl.pw_pos _
    unfold Fl.magOf
    split
    · omega
    · omega
  generalize Fl.magOf f (Fl.rungOf f A) = M at *
  generalize Fl.plOf f (Fl.rungOf f A) = P at *
  obtain ⟨j, h1, h2, h3⟩ := strip_spec M (f.leastPlace + (P : Int)) hm0
  generalize strip M (f.leastPlace + (P : Int)) = s at *
  obtain ⟨m, e⟩ := s
  simp only at h1 h2 h3
  have hj := pow_bound m j h3 (by rw [← h1]; omega)
  refine ⟨m, e, rfl, h3, ?_, by omega, ?_⟩
  · have : m * 1 ≤ m * 2 ^ j := Nat.mul_le_mul_left _ (Nat.one_le_two_pow)
    omega
  · unfold Pure.roundF
    have hn := S.ok
    rw [if_neg (fun x => x.elim (fun y => by omega) (fun y => by cases y.1)), S.fm]
    show ((f.nearest false (2 * m + false.toNat) (e - 1) : Nat) : Int) = _
    have e1 : 2 * m + false.toNat = m * 2 ^ 1 := by show 2 * m + 0 = _; omega
    rw [e1, Fl.nearest_scale, show e - 1 + ((1 : Nat) : Int) = f.leastPlace + (P : Int) + (j : Int) by omega, ← Fl.nearest_scale, ← h1, hw]
theorem two_parts (k v : Nat) (hk : 1 ≤ k) : v % 2 ^ k = plainV k v + (if v / 2 ^ (k - 1) % 2 = 1 then 2 ^ (k - 1) else 0) := by
  obtain ⟨k, rfl⟩ : ∃ j, k = j + 1 := ⟨k - 1, by omega⟩
  unfold plainV
  rw [Nat.add_sub_cancel, Nat.mod_pow_succ]
  rcases Nat.mod_two_eq_zero_or_one (v / 2 ^ k) with h | h
  · rw [h, if_neg (by decide)]; simp
  · rw [h, if_pos rfl]; simp
/-- The middle of what is shown: a magnitude that is read as the plain word. -/
theorem show_mid (bits : Int) (hb : bits = 32 ∨ bits = 64) (v : Nat) (hv : v < 18446744073709551616) :
    ∃ a t, showF bits v = signT bits.toNat v ++ a :: t ∧ a ≠ 43 ∧ a ≠ 45 ∧ magF bits (a :: t) = ((plainV bits.toNat v : Int), true) := by
  obtain ⟨p, q, f, S⟩ := Pure.sz bits hb
  have hsg : f.signWeight = 2 ^ (bits.toNat - 1) := by
    rcases S.pq with ⟨_, _, rfl⟩ | ⟨_, _, rfl⟩
    · have hf := S.fm
      rcases hb with rfl | rfl
      · rw [Fl.s_sgn]; rfl
      · exact absurd (congrArg (fun g : Ieee.Format => g.fractionBits) hf) (by decide)
    · have hf := S.fm
      rcases hb with rfl | rfl
      · exact absurd (congrArg (fun g : Ieee.Format => g.fractionBits) hf) (by decide)
      · rw [Fl.d_sgn]; rfl
  have hP : plainV bits.toNat v < f.signWeight := by rw [hsg]; exact plain_lt _ _
  have hrv : Fl.rungOf f (Fl.wOf bits (v : Int)) = plainV bits.toNat v := by
    rw [← (S.same v hv).1]
    unfold Fl.rungOf plainV
    rw [hsg]
  have hrp : ∀ A, A < f.signWeight → Fl.rungOf f A = A := fun A h => Nat.mod_eq_of_lt h
  have hinf : infF bits = (f.infRung : Int) := by
    rcases S.pq with ⟨_, _, rfl⟩ | ⟨_, _, rfl⟩
    · have hf := S.fm
      rcases hb with rfl | rfl
      · decide +kernel
      · exact absurd (congrArg (fun g : Ieee.Format => g.fractionBits) hf) (by decide)
    · have hf := S.fm
      rcases hb with rfl | rfl
      · exact absurd (congrArg (fun g : Ieee.Format => g.fractionBits) hf) (by decide)
      · decide +kernel
  have hpl : plainV bits.toNat v < 18446744073709551616 := by
    have h1 := plain_lt bits.toNat v
    rcases hb with rfl | rfl
    · have e : (2 : Nat) ^ ((32 : Int).toNat - 1) = 2147483648 := rfl
      rw [e] at h1; omega
    · have e : (2 : Nat) ^ ((64 : Int).toNat - 1) = 9223372036854775808 := rfl
      rw [e] at h1; omega
  have hwp : Fl.wOf bits ((plainV bits.toNat v : Nat) : Int) = plainV bits.toNat v := by
    rw [← S.cut _ hpl]
    exact Nat.mod_eq_of_lt (by omega)
  unfold showF
  simp only
  have hk : Fl.kindF bits v = if plainV bits.toNat v = 0 then 1 else if f.infRung < plainV bits.toNat v then 4 else if plainV bits.toNat v = f.infRung then 3 else 2 := by
    unfold Fl.kindF Fl.nanW
    rw [if_neg (by omega), S.fm, hrv]
    simp only [decide_eq_true_eq]
  rw [hk]
  by_cases z : plainV bits.toNat v = 0
  · rw [if_pos z, if_neg (by decide), if_pos rfl]
    refine ⟨48, [120, 48, 112, 48], rfl, by decide, by decide, ?_⟩
    rw [z]
    rcases hb with rfl | rfl <;> decide +kernel
  · rw [if_neg z]
    by_cases g : f.infRung < plainV bits.toNat v
    · rw [if_pos g, if_neg (by decide), if_neg (by decide), if_neg (by decide)]
      by_cases hc : (plainV bits.toNat v : Int) = Fl.canon bits
      · rw [if_pos hc]
        refine ⟨110, [97, 110], rfl, by decide, by decide, ?_⟩
        rw [hc]
        rfl
      · rw [if_neg hc, if_pos rfl]
        obtain ⟨A, hA⟩ : ∃ A, plainV bits.toNat v = A := ⟨_, rfl⟩
        have hn : (IntKind.u64.wrap ((A : Int) - infF bits)).toNat = A - f.infRung := by
          rw [hinf, IntKind.wrap_u64]
          omega
        rw [hA] at hP g hpl ⊢
        rw [hn]
        refine ⟨110, [97, 110, 58, 48, 120] ++ hexT (A - f.infRung), by simp, by decide, by decide, ?_⟩
        have htrim : Lib.trimPrefix (110 :: ([97, 110, 58, 48, 120] ++ hexT (A - f.infRung))) nanL = hexT (A - f.infRung) := by
          unfold Lib.trimPrefix
          rw [if_pos (by simp [Lib.hasPrefix, List.isPrefixOf, nanL])]
          rfl
        unfold magF
        rw [if_neg (by simp), if_neg (by simp), if_pos (by simp [Lib.hasPrefix, List.isPrefixOf, nanL]), htrim]
        unfold nanF nanF.bits_or
        simp only [row_hexT]
        rw [hexT_num _ (by omega)]
        simp only [Option.getD_some, Option.isSome_some, Bool.true_and, Bool.and_true]
        rw [decide_eq_true (show 0 < A - f.infRung by omega), Bool.true_and]
        rw [hinf]
        have hlim : ((A - f.infRung : Nat) : Int) < IntKind.u64.wrap (IntKind.u64.wrap (Fl.canon bits - (f.infRung : Int)) * 2) ∧ Go.bits .or .u64 (f.infRung : Int) ((A - f.infRung : Nat) : Int) = (A : Int) := by
          rcases S.pq with ⟨_, _, rfl⟩ | ⟨_, _, rfl⟩
          · have hf := S.fm
            rcases hb with rfl | rfl
            · rw [Fl.s_inf] at g ⊢
              rw [Fl.s_sgn] at hP
              have e : IntKind.u64.wrap (IntKind.u64.wrap (Fl.canon 32 - ((255 * 8388608 : Nat) : Int)) * 2) = 8388608 := by decide +kernel
              rw [e, bits_or_u64_nat _ _ (by decide) (by omega)]
              refine ⟨by omega, ?_⟩
              have h23 := Nat.shiftLeft_add_eq_or_of_lt (a := 255) (b := A - 255 * 8388608) (i := 23) (by omega)
              rw [Nat.shiftLeft_eq, show (2 : Nat) ^ 23 = 8388608 from rfl] at h23
              rw [← h23]
              omega
            · exact absurd (congrArg (fun g : Ieee.Format => g.fractionBits) hf) (by decide)
          · have hf := S.fm
            rcases hb with rfl | rfl
            · exact absurd (congrArg (fun g : Ieee.Format => g.fractionBits) hf) (by decide)
            · rw [Fl.d_inf] at g ⊢
              rw [Fl.d_sgn] at hP
              have e : IntKind.u64.wrap (IntKind.u64.wrap (Fl.canon 64 - ((2047 * 4503599627370496 : Nat) : Int)) * 2) = 4503599627370496 := by decide +kernel
              rw [e, bits_or_u64_nat _ _ (by decide) (by omega)]
              refine ⟨by omega, ?_⟩
              have h52 := Nat.shiftLeft_add_eq_or_of_lt (a := 2047) (b := A - 2047 * 4503599627370496) (i := 52) (by omega)
              rw [Nat.shiftLeft_eq, show (2 : Nat) ^ 52 = 4503599627370496 from rfl] at h52
              rw [← h52]
              omega
        rw [decide_eq_true hlim.1, hlim.2]
    · rw [if_neg g]
      by_cases y : plainV bits.toNat v = f.infRung
      · rw [if_pos y, if_neg (by decide), if_neg (by decide), if_pos rfl]
        refine ⟨105, [110, 102], rfl, by decide, by decide, ?_⟩
        rw [y, ← hinf]
        rfl
      · rw [if_neg y, if_neg (by decide), if_neg (by decide), if_neg (by decide)]
        have hnc : ¬ (plainV bits.toNat v : Int) = Fl.canon bits := by
          intro h
          have : Fl.canon bits > infF bits := by rcases hb with rfl | rfl <;> decide +kernel
          rw [hinf] at this
          omega
        rw [if_neg hnc, if_neg (by decide)]
        have hkp : Fl.kindF bits ((plainV bits.toNat v : Nat) : Int) = 2 := by
          unfold Fl.kindF Fl.nanW
          rw [if_neg (by omega), S.fm, hwp, hrp _ hP, if_neg z, if_neg (by simpa using g), if_neg y]
        have hpf : Pure.partsF bits (plainV bits.toNat v) = (false, (Fl.magOf f (Fl.rungOf f (plainV bits.toNat v)) : Int), f.leastPlace + (Fl.plOf f (Fl.rungOf f (plainV bits.toNat v)) : Int), 0) := by
          unfold Pure.partsF
          rw [if_pos (.inr hkp), S.fm, hwp]
          have hng : Fl.negOf f (plainV bits.toNat v) = false := by unfold Fl.negOf; rw [Nat.div_eq_of_lt hP]; rfl
          rw [hng]
        obtain ⟨m, e, hs, hm0, hm, he, hr⟩ := parts_back S (plainV bits.toNat v) hP (by rw [hrp _ hP]; exact z) (by rw [hrp _ hP]; omega)
        rw [hpf]
        simp only [Int.toNat_natCast]
        rw [hs]
        simp only
        refine ⟨48, 120 :: (hexT m ++ 112 :: Lib.itoa e), by simp, by decide, by decide, ?_⟩
        unfold magF
        rw [if_neg (by simp), if_neg (by simp), if_neg (by simp [Lib.hasPrefix, List.isPrefixOf, nanL])]
        have hx1 : (hexF (48 :: 120 :: (hexT m ++ 112 :: Lib.itoa e))).1 = true := by unfold hexF; simp [Lib.hasPrefix, List.isPrefixOf]
        have hx2 : (hexF (48 :: 120 :: (hexT m ++ 112 :: Lib.itoa e))).2 = hexT m ++ 112 :: Lib.itoa e := by
          unfold hexF Lib.trimPrefix
          simp only
          rw [if_pos (by simp [Lib.hasPrefix, List.isPrefixOf])]
          rfl
        rw [hx1, hx2, num_show bits m e hm0 hm (by omega) _ hr, decide_eq_true (by rw [hinf]; omega)]
theorem show_back (bits : Int) (hb : bits = 32 ∨ bits = 64) (v : Nat) (hv : v < 18446744073709551616) :
    floatF bits (showF bits v) = (((v % 2 ^ bits.toNat : Nat) : Int), true) := by
  obtain ⟨a, t, h1, h2, h3, h4⟩ := show_mid bits hb v hv
  have hp := plain_lt bits.toNat v
  have htp := two_parts bits.toNat v (by omega)
  rw [h1]
  obtain ⟨s1, s2, s3⟩ := signs3 bits a t h2 h3
  have hfl : floatF bits (a :: t) = ((plainV bits.toNat v : Int), true) := by
    unfold floatF
    rw [sign_none a t h2 h3, if_pos hb]
    simp only
    rw [h4]
    simp only [if_true]
    have u0 : upF bits false = ((0 : Nat) : Int) := rfl
    rw [u0, bits_or_u64_nat _ _ (by
      rcases hb with rfl | rfl
      · have e : (2 : Nat) ^ ((32 : Int).toNat - 1) = 2147483648 := rfl
        rw [e] at hp; omega
      · have e : (2 : Nat) ^ ((64 : Int).toNat - 1) = 9223372036854775808 := rfl
        rw [e] at hp; omega) (by omega), Nat.or_zero]
  have htop : topI bits = ((2 ^ (bits.toNat - 1) : Nat) : Int) := by rcases hb with rfl | rfl <;> rfl
  rw [hfl] at s2 s3
  obtain ⟨_, _, _, s4⟩ := s3 rfl
  simp only at s2 s4
  unfold signT
  by_cases hs : v / 2 ^ (bits.toNat - 1) % 2 = 1
  · rw [if_pos hs] at htp
    rw [if_pos hs]
    show floatF bits (45 :: a :: t) = _
    refine Prod.ext ?_ s2
    show (floatF bits (45 :: a :: t)).1 = _
    rw [s4, htop, htp]
    omega
  · rw [if_neg hs] at htp
    rw [if_neg hs]
    show floatF bits (a :: t) = _
    rw [hfl, htp, Nat.add_zero]
theorem hex_dec (n : Nat) : hexF (Lib.decDigits n) = (false, Lib.decDigits n) := by
  have h : Lib.hasPrefix (Lib.decDigits n) [48, 120] = false := by
    cases h : Lib.decDigits n with
    | nil => rfl
    | cons a t =>
      cases t with
      | nil => simp [Lib.hasPrefix, List.isPrefixOf, List.isPrefixOf]
      | cons b t =>
        have : b ≠ 120 := decT_all (fun c => c ≠ 120) (fun d hd => (dcd_ok d hd).2.2.2.2.2) n b (by rw [h]; simp)
        have hb : ((120 : UInt8) == b) = false := by simpa using fun e : (120 : UInt8) = b => this e.symm
        simp only [Lib.hasPrefix, List.isPrefixOf, hb, Bool.false_and, Bool.and_false]
  unfold hexF Lib.trimPrefix
  rw [h, if_neg Bool.false_ne_true]
theorem int_back (k v : Nat) (hk : k = 8 ∨ k = 16 ∨ k = 32 ∨ k = 64) : intF (k : Int) (showI (k : Int) v) = (v % 2 ^ k, true) := by
  have hr : rightB (k : Int) := by unfold rightB; omega
  have hrb : right (k : Int) = true := by rcases hk with rfl | rfl | rfl | rfl <;> decide
  unfold showI
  rw [if_pos hr, Int.toNat_natCast]
  unfold intF
  simp only [sign_itoa, hex_dec, row_dec, hrb]
  rw [if_pos ⟨trivial, trivial⟩, if_neg Bool.false_ne_true]
  have hms : most (k : Int) = 2 ^ k - 1 := by unfold most; rw [Int.toNat_natCast]
  have hlt := Nat.mod_lt v (Nat.two_pow_pos k)
  have hrange := sgn_range k v hk
  rw [decT_num _ (by omega)]
  simp only
  rw [hms]
  have e : (2 : Nat) ^ k = 2 * 2 ^ (k - 1) := by rw [← Nat.pow_succ', show (k - 1).succ = k by omega]
  have hp : 0 < 2 ^ (k - 1) := Nat.two_pow_pos _
  unfold sgnB
  generalize v % 2 ^ k = x at *
  rw [e] at hlt ⊢
  generalize 2 ^ (k - 1) = P at *
  by_cases h : x < P
  · rw [if_pos h, decide_eq_false (by omega), if_neg (by
      rintro (⟨g, _⟩ | g)
      · cases g
      · omega), if_neg Bool.false_ne_true]
    rfl
  · rw [if_neg h, decide_eq_true (by omega), if_neg (by
      rintro (⟨_, g⟩ | g)
      · omega
      · omega), if_pos rfl]
    congr 1
    have e1 : (2 * P - 1 + 1 - ((x : Int) - ((2 * P : Nat) : Int)).natAbs) = x := by omega
    rw [e1]
    exact Nat.mod_eq_of_lt (by omega)
end Go.Proofs.YtjecdciabpjgcaaGreatDoor.Lz
