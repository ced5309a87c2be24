/-
  Chapter 8's Float: what a text says, as a plain function; its walk. Condition: the library's variable internal/bytealg.MaxLen holds a number; the text is no longer than 900000 bytes.
  strconv.FormatUint at base 16: the number in hex digits; its walk. Condition: math/bits' table of de Bruijn is as its initialiser lays it.
  ShowInt: an integer with its sign, in digits; its walk. Condition: strconv's table of powers of ten is as its initialiser lays it.
  A row's contract with the world's shape; the library's variable internal/bytealg.MaxLen holds a number in a shaped world. Condition: none.
  What the rows of chapter 8 list of the library's variables gives the walks what they ask: math/bits' table and strconv's powers of ten; internal/bytealg.MaxLen's number comes of the world's shape. No condition.
  What a sign ahead and a _ between two digits do to a float's and an integer's text (plain, no program in sight). No condition.
  ShowFloat: a float as a text; its walk. Condition: strconv's table of powers of ten and math/bits' table are as their initialisers lay them.
  What the document's examples of chapter 8 come to (plain, no program in sight). No condition.
  The walk of chapter 8's awake. Condition: the library's variable internal/bytealg.MaxLen holds a number, and strconv's and math/bits' tables are as their initialisers lay them.
-/
import Derived.Lib.SmallJoins
import Derived.Lib.TrailingZeros
import Derived.Lib.AppendIntMem
import Derived.Shelf.Vars
import Derived.Handed
import Derived.SizedLaws
import Derived.Test.YtjecdciabpjgcaaGreatDoorRows
import Derived.ProofKit
import Derived.OpenShut
import Derived.LaidMore
import Derived.Stop.Joined
import Derived.SevenTiedAt
import Derived.MakeChecks
import Derived.Lib.ItoaLen
import Derived.Test.YtjecdciabpjgcaaGreatDoorZs0
import Derived.Test.YtjecdciabpjgcaaGreatDoorZs1
import Derived.Test.YtjecdciabpjgcaaGreatDoorZs2
import Derived.Test.YtjecdciabpjgcaaGreatDoorZs3
import Derived.Test.YtjecdciabpjgcaaGreatDoorZs4
import Derived.Test.YtjecdciabpjgcaaGreatDoorZs5
import Derived.Test.YtjecdciabpjgcaaGreatDoorZs6
import Derived.Test.YtjecdciabpjgcaaGreatDoorZs7
import Derived.Test.YtjecdciabpjgcaaGreatDoorZs8
namespace Go.Proofs.YtjecdciabpjgcaaGreatDoor.Lz
set_option linter.unusedVariables false
set_option linter.unusedSimpArgs false
open Go.RowKit Go.Proofs.YtjecdciabpjgcaaGreatDoorW.PrintWords Go.Proofs.YtjecdciabpjgcaaGreatDoor.Lx Go.Proofs.YtjecdciabpjgcaaGreatDoor.PLz
def upF (bits : Int) (neg : Bool) : Int := if neg = true then (if bits = 32 then 2147483648 else 9223372036854775808) else 0
def floatF (bits : Int) (l : List UInt8) : Int × Bool :=
  if bits = 32 ∨ bits = 64 then
    let s := signF l
    let m := magF bits s.2
    if m.2 = true then (Go.bits .or .u64 m.1 (upF bits s.1), true) else (0, false)
  else (0, false)
set_option maxRecDepth 1000000 in
set_option maxHeartbeats 4000000 in
theorem float_c (bits : Int) (s : ByteArray) (hs : s.size ≤ 900000) (w : World) (hm : ML w) :
    Calls Tryz.prog 12 #[.int .i64 bits, .string s] w (MgQ w (floatF bits s.data.toList)) := by
  obtain ⟨R, hR⟩ : ∃ R, floatF bits s.data.toList = R := ⟨_, rfl⟩
  rw [hR]
  unfold floatF at hR
  by_cases hb : bits = 32 ∨ bits = 64
  · rw [if_pos hb] at hR
    obtain ⟨S, hS⟩ : ∃ S, signF s.data.toList = S := ⟨_, rfl⟩
    have hSl := signF_len s.data.toList
    rw [hS] at hR hSl
    obtain ⟨neg, t⟩ := S
    have HSG := Lib.hid (fun w => sign_c s neg t hS w)
    simp only at hR hSl
    rw [len_data] at hSl
    obtain ⟨m, hmm⟩ : ∃ m, magF bits t = m := ⟨_, rfl⟩
    have HMG := Lib.hid (fun w hm => mag_c bits hb ⟨t.toArray⟩ (by rw [size_arr]; omega) w hm)
    rw [arr_self, hmm] at HMG
    rw [hmm] at hR
    obtain ⟨v, fine⟩ := m
    simp only at hR
    have HM := Lib.hid hm
    have HRR := Lib.hid hR
    clear hR hSl hS hmm hm
    rcases hb with rfl | rfl
    · cases neg
      · cases fine
        · go_enter Tryz.func12, Tryz.ntmps12
          go_wp2_with (first | (go_at_call 22; refine (HSG.out _).mono ?_; rintro x w1 ⟨rfl, rfl⟩) | (go_at_call 32; refine (HMG.out _ HM.out).mono ?_; intro x w2 hq; obtain ⟨hx, hb⟩ := hq.out; subst hx; have HB2 := Lib.hid hb; clear hq hb))
          go_ret2
          exact ⟨by rw [← HRR.out]; rfl, HB2.out⟩
        · go_enter Tryz.func12, Tryz.ntmps12
          go_wp2_with (first | (go_at_call 22; refine (HSG.out _).mono ?_; rintro x w1 ⟨rfl, rfl⟩) | (go_at_call 32; refine (HMG.out _ HM.out).mono ?_; intro x w2 hq; obtain ⟨hx, hb⟩ := hq.out; subst hx; have HB2 := Lib.hid hb; clear hq hb))
          go_ret2
          exact ⟨by rw [← HRR.out]; rfl, HB2.out⟩
      · cases fine
        · go_enter Tryz.func12, Tryz.ntmps12
          go_wp2_with (first | (go_at_call 22; refine (HSG.out _).mono ?_; rintro x w1 ⟨rfl, rfl⟩) | (go_at_call 32; refine (HMG.out _ HM.out).mono ?_; intro x w2 hq; obtain ⟨hx, hb⟩ := hq.out; subst hx; have HB2 := Lib.hid hb; clear hq hb))
          go_ret2
          exact ⟨by rw [← HRR.out]; rfl, HB2.out⟩
        · go_enter Tryz.func12, Tryz.ntmps12
          go_wp2_with (first | (go_at_call 22; refine (HSG.out _).mono ?_; rintro x w1 ⟨rfl, rfl⟩) | (go_at_call 32; refine (HMG.out _ HM.out).mono ?_; intro x w2 hq; obtain ⟨hx, hb⟩ := hq.out; subst hx; have HB2 := Lib.hid hb; clear hq hb))
          go_ret2
          exact ⟨by rw [← HRR.out]; rfl, HB2.out⟩
    · cases neg
      · cases fine
        · go_enter Tryz.func12, Tryz.ntmps12
          go_wp2_with (first | (go_at_call 22; refine (HSG.out _).mono ?_; rintro x w1 ⟨rfl, rfl⟩) | (go_at_call 32; refine (HMG.out _ HM.out).mono ?_; intro x w2 hq; obtain ⟨hx, hb⟩ := hq.out; subst hx; have HB2 := Lib.hid hb; clear hq hb))
          go_ret2
          exact ⟨by rw [← HRR.out]; rfl, HB2.out⟩
        · go_enter Tryz.func12, Tryz.ntmps12
          go_wp2_with (first | (go_at_call 22; refine (HSG.out _).mono ?_; rintro x w1 ⟨rfl, rfl⟩) | (go_at_call 32; refine (HMG.out _ HM.out).mono ?_; intro x w2 hq; obtain ⟨hx, hb⟩ := hq.out; subst hx; have HB2 := Lib.hid hb; clear hq hb))
          go_ret2
          exact ⟨by rw [← HRR.out]; rfl, HB2.out⟩
      · cases fine
        · go_enter Tryz.func12, Tryz.ntmps12
          go_wp2_with (first | (go_at_call 22; refine (HSG.out _).mono ?_; rintro x w1 ⟨rfl, rfl⟩) | (go_at_call 32; refine (HMG.out _ HM.out).mono ?_; intro x w2 hq; obtain ⟨hx, hb⟩ := hq.out; subst hx; have HB2 := Lib.hid hb; clear hq hb))
          go_ret2
          exact ⟨by rw [← HRR.out]; rfl, HB2.out⟩
        · go_enter Tryz.func12, Tryz.ntmps12
          go_wp2_with (first | (go_at_call 22; refine (HSG.out _).mono ?_; rintro x w1 ⟨rfl, rfl⟩) | (go_at_call 32; refine (HMG.out _ HM.out).mono ?_; intro x w2 hq; obtain ⟨hx, hb⟩ := hq.out; subst hx; have HB2 := Lib.hid hb; clear hq hb))
          go_ret2
          exact ⟨by rw [← HRR.out]; rfl, HB2.out⟩
  · rw [if_neg hb] at hR
    have HRR := Lib.hid hR
    have q1 : (bits != 32) = true := by simp only [bne_iff_ne, ne_eq]; omega
    have q2 : (bits != 64) = true := by simp only [bne_iff_ne, ne_eq]; omega
    clear hR hb hm
    go_enter Tryz.func12, Tryz.ntmps12
    go_wp2
    go_ret2
    exact ⟨by rw [← HRR.out]; rfl, Below.refl _ _⟩
end Go.Proofs.YtjecdciabpjgcaaGreatDoor.Lz
namespace Go.Proofs.YtjecdciabpjgcaaGreatDoor.Lz
set_option linter.unusedVariables false
set_option linter.unusedSimpArgs false
open Go.RowKit Go.Proofs.YtjecdciabpjgcaaGreatDoorW.PrintWords Go.Proofs.YtjecdciabpjgcaaGreatDoor.Lx
/-- A hex digit's byte. -/
def hxd (d : Nat) : UInt8 := if d < 10 then UInt8.ofNat (48 + d) else UInt8.ofNat (87 + d)
/-- A number in hex digits. -/
def hexT (n : Nat) : List UInt8 := if h : n < 16 then [hxd n] else hexT (n / 16) ++ [hxd (n % 16)]
termination_by n
decreasing_by omega
theorem hexT_lt (n : Nat) (h : n < 16) : hexT n = [hxd n] := by rw [hexT]; simp [h]
theorem hexT_ge (n : Nat) (h : 16 ≤ n) : hexT n = hexT (n / 16) ++ [hxd (n % 16)] := by rw [hexT]; simp [show ¬ n < 16 by omega]
/-- math/bits.deBruijn64tab lies as it is laid. -/
def DB (w : World) : Prop := ∀ j, j < 64 → w.cell? ⟨6, j, none⟩ = some (.int .u8 ((Lib.deBruijn64tab.getD j 0 : Nat) : Int))
theorem db_below {w w' : World} (h : DB w) (hb : Below w.heap.size w w') : DB w' := fun j hj => by
  have := h j hj
  rw [← this]
  exact hb.cell (by
    rcases Nat.lt_or_ge 6 w.heap.size with h1 | h1
    · exact h1
    · have h2 := h j hj
      simp [World.cell?, Array.getElem?_eq_none h1] at h2)
set_option maxRecDepth 1000000 in
set_option maxHeartbeats 2000000 in
theorem tz16 (w : World) (h : DB w) : Calls Tryz.prog 164 #[.int .u64 16] w fun e w' => e = .returned (.int .i64 4) ∧ w' = w := by
  have hc : w.cell? ⟨6, 15, none⟩ = some (.int .u8 4) := h 15 (by omega)
  have key : IntKind.u64.wrap (bits BinOp.and IntKind.u64 16 (IntKind.u64.wrap (-16)) * 285870213051353865) / 288230376151711744 = 15 := by decide +kernel
  go_enter Tryz.func164, Tryz.ntmps164
  go_wp2_with (simp only [key])
  go_ret
  exact ⟨rfl, rfl⟩
set_option maxRecDepth 1000000 in
set_option maxHeartbeats 2000000 in
theorem tzu16 (w : World) (h : DB w) : Calls Tryz.prog 142 #[.int .u64 16] w fun e w' => e = .returned (.int .i64 4) ∧ w' = w := by
  go_enter Tryz.func142, Tryz.ntmps142
  go_wp2_with (go_at_call 164; refine (tz16 _ h).mono ?_; rintro x w' ⟨rfl, rfl⟩)
  go_ret
  exact ⟨rfl, rfl⟩
set_option maxRecDepth 1000000 in
set_option maxHeartbeats 2000000 in
theorem ip16 (w : World) : Calls Tryz.prog 141 #[.int .i64 16] w fun e w' => e = .returned (.bool true) ∧ w' = w := by
  go_enter Tryz.func141, Tryz.ntmps141
  go_wp2
  go_ret
  exact ⟨rfl, rfl⟩
/-- strconv's digits. -/
def DIG : ByteArray := ⟨#[48, 49, 50, 51, 52, 53, 54, 55, 56, 57, 97, 98, 99, 100, 101, 102, 103, 104, 105, 106, 107, 108, 109, 110, 111, 112, 113, 114, 115, 116, 117, 118, 119, 120, 121, 122]⟩
theorem dig_at (d : Nat) (h : d < 16) (h' : d < DIG.size) : DIG[d] = hxd d := by
  have key : ∀ i : Fin 16, DIG[i.val]'(Nat.lt_of_lt_of_le i.isLt (by decide)) = hxd i.val := by decide
  exact key ⟨d, h⟩
structure FbR (w : World) (n : Nat) (v1 v13 : Value) (wr : World) : Prop where mk ::
  (out : ∃ (p v : Nat) (L : List UInt8), v1 = .int .u64 (v : Int) ∧ v13 = .int .i64 (p : Int) ∧ p + L.length = 65 ∧ 50 ≤ p ∧ v < 16 ^ (p - 49) ∧ hexT v ++ L = hexT n ∧
    (∀ j, j < 65 → ∃ b : UInt8, wr.cell? ⟨w.heap.size, j, none⟩ = some (.int .u8 (b.toNat : Int)) ∧ wr.frozen? ⟨w.heap.size, j, none⟩ = false) ∧
    (∀ j (h : j < L.length), wr.cell? ⟨w.heap.size, p + j, none⟩ = some (.int .u8 (L[j].toNat : Int))) ∧ Below w.heap.size w wr)
set_option maxRecDepth 1000000 in
set_option maxHeartbeats 4000000 in
theorem fb_c (n : Nat) (hn : n < 18446744073709551616) (w : World) (hd : DB w) :
    Calls Tryz.prog 108 #[.slice none 0 0, .int .u64 n, .int .i64 16, .bool false, .bool false] w fun e w' => e = .returned (.tuple #[.slice none 0 0, .string ⟨(hexT n).toArray⟩]) ∧ Below w.heap.size w w' := by
  have HD := Lib.hid hd
  clear hd
  go_enter Tryz.func108, Tryz.ntmps108
  go_wp2_with (first | (go_at_call 141; refine (ip16 _).mono ?_; rintro x w' ⟨rfl, rfl⟩) | (go_at_call 142; refine (tzu16 _ (db_below HD.out ((Below.refl _ _).alloc (Nat.le_refl _) _))).mono ?_; rintro x w' ⟨rfl, rfl⟩))
  go_loopw [1, 13] (FbR w n) (fun v1 _ _ => numV v1)
  case atStart =>
    refine ⟨65, n, [], rfl, rfl, rfl, by omega, by simpa using hn, by simp, fun j hj => ⟨0, ?_, World.frozen?_alloc_new _ _ _ _⟩, fun j hj => by simp at hj, (Below.refl _ _).alloc (Nat.le_refl _) _⟩
    rw [World.cell?_alloc_new]
    have e : Tryz.zeroCells169 = Array.replicate 65 (.int .u8 0) := rfl
    rw [e, Array.getElem?_replicate, if_pos hj]
    rfl
  case round =>
    obtain ⟨p, v, L, rfl, rfl, hpl, hp, hv, hL, hc, hcl, hb⟩ := hrel.out
    clear hrel
    rename World => W
    have hv64 : v < 18446744073709551616 := Nat.lt_of_lt_of_le hv (Nat.le_trans (Nat.pow_le_pow_right (by omega) (show p - 49 ≤ 16 by omega)) (by decide))
    have HB := Lib.hid hb
    have HC := Lib.hid hc
    have HCL := Lib.hid hcl
    have HLL := Lib.hid hL
    by_cases h16 : 16 ≤ v
    · obtain ⟨q, rfl⟩ : ∃ q, p = q + 1 := ⟨p - 1, by omega⟩
      have hq : 50 ≤ q := by
        by_cases hq : 50 ≤ q
        · exact hq
        · exfalso
          have : (16 : Nat) ^ (q + 1 - 49) ≤ 16 ^ 1 := Nat.pow_le_pow_right (by omega) (by omega)
          omega
      have hvq : v / 16 < 16 ^ (q - 49) := by
        rw [show q + 1 - 49 = (q - 49) + 1 by omega, Nat.pow_succ] at hv
        exact Nat.div_lt_of_lt_mul (by omega)
      have HV := Lib.hid hvq
      obtain ⟨b, hcq, hfq⟩ := hc q (by omega)
      have hand : bits .and .u64 (v : Int) 15 = ((v % 16 : Nat) : Int) := by
        rw [show (15 : Int) = ((15 : Nat) : Int) from rfl, bits_and_u64_nat v 15 hv64 (by omega), show (15 : Nat) = 2 ^ 4 - 1 from rfl, Nat.and_two_pow_sub_one_eq_mod]
      have hm : v % 16 < 16 := Nat.mod_lt _ (by omega)
      have hmI : ((v % 16 : Nat) : Int) < 16 := by omega
      have HT : Hid (hexT (v / 16) ++ hxd (v % 16) :: L = hexT n) := Lib.hid (by rw [← hL, hexT_ge v h16]; simp)
      clear hc hcl hb hv hL hvq
      generalize v % 16 = d at *
      have h16I : (16 : Int) ≤ (v : Int) := by omega
      go_wp2
      go_roundw
      case rel =>
        refine ⟨q, v / 16, hxd d :: L, by push_cast; rfl, rfl, by simp; omega, hq, HV.out, HT.out, fun j hj => ?_, fun j hj => ?_, HB.out.setCell (Nat.le_refl _) _⟩
        · obtain ⟨c, h1, h2⟩ := HC.out j hj
          rw [World.frozen?_setCell]
          by_cases hjq : j = q
          · subst hjq
            exact ⟨_, World.cell?_setCell_same _ _ _ hcq, h2⟩
          · exact ⟨c, by rw [World.cell?_setCell_other _ _ _ _ (fun h => hjq (congrArg Addr.off h).symm)]; exact h1, h2⟩
        · cases j with
          | zero =>
            refine (World.cell?_setCell_same W ⟨w.heap.size, q, none⟩ _ hcq).trans ?_
            exact congrArg (fun x : UInt8 => some (Value.int .u8 (x.toNat : Int))) (dig_at d hm (Nat.lt_of_lt_of_le hm (by decide)))
          | succ i =>
            rw [World.cell?_setCell_other _ _ _ _ (by simp), List.getElem_cons_succ, show q + (i + 1) = q + 1 + i by omega]
            exact HCL.out i (by simpa using hj)
      case measure =>
        simp only [numV]
        omega
    · have hT : hexT n = hxd v :: L := by rw [← hL, hexT_lt v (by omega)]; rfl
      have hlen : (hexT n).length = 65 - (p - 1) := by rw [hT, List.length_cons]; omega
      obtain ⟨q, rfl⟩ : ∃ q, p = q + 1 := ⟨p - 1, by omega⟩
      obtain ⟨b, hcq, hfq⟩ := hc q (by omega)
      have hal : Tryz.prog.arrayLen 169 = 65 := rfl
      have hsl : ∀ W', (Instr.sliceAt 169 (.pointer (some ⟨w.heap.size, 0, none⟩)) (some (.int .i64 (q : Int))) none none).run Tryz.prog W' = .ok (.slice (some ⟨w.heap.size, q, none⟩) (hexT n).length (hexT n).length) W' := fun W' => by
        rw [run_sliceAt_array_l W' 169 ⟨w.heap.size, 0, none⟩ rfl .i64 (q : Int) (by omega) (by rw [hal]; omega)]
        rw [hlen, hal]
        go_simp
        omega
      have hD : DIG[v]'(Nat.lt_of_lt_of_le (show v < 16 by omega) (by decide)) = hxd v := dig_at v (by omega) _
      have hcv : (convert 49 9 (.slice (some ⟨w.heap.size, q, none⟩) (hexT n).length (hexT n).length)).run Tryz.prog (W.setCell ⟨w.heap.size, q, none⟩ (.int .u8 ((DIG[v]'(Nat.lt_of_lt_of_le (show v < 16 by omega) (by decide))).toNat : Int))) = .ok (.string ⟨(hexT n).toArray⟩) (W.setCell ⟨w.heap.size, q, none⟩ (.int .u8 ((DIG[v]'(Nat.lt_of_lt_of_le (show v < 16 by omega) (by decide))).toNat : Int))) := by
        refine run_convert_bytes_back _ 49 9 5 _ _ (hexT n) rfl rfl rfl fun j hj => ?_
        simp only [hT, hD]
        cases j with
        | zero => exact World.cell?_setCell_same _ _ _ hcq
        | succ i =>
          rw [World.cell?_setCell_other _ _ _ _ (by simp [Addr.add]), List.getElem_cons_succ]
          have := hcl i (by rw [hT] at hj; simpa using hj)
          rw [show q + 1 + i = q + (i + 1) by omega] at this
          exact this
      clear hc hcl hb hv hL hT hlen hD hal
      unfold DIG at hcv
      go_wp2
      go_ret2
      exact ⟨rfl, HB.out.setCell (Nat.le_refl _) _⟩
set_option maxRecDepth 1000000 in
set_option maxHeartbeats 4000000 in
theorem fui_c (n : Nat) (hn : n < 18446744073709551616) (w : World) (hd : DB w) :
    Calls Tryz.prog 74 #[.int .u64 n, .int .i64 16] w fun e w' => e = .returned (.string ⟨(hexT n).toArray⟩) ∧ Below w.heap.size w w' := by
  have HF := Lib.hid (fb_c n hn w hd)
  clear hd
  go_enter Tryz.func74, Tryz.ntmps74
  go_wp2_with (go_at_call 108; refine HF.out.mono ?_; rintro x w' ⟨rfl, hb⟩)
  go_ret
  exact ⟨rfl, hb⟩
set_option maxRecDepth 1000000 in
set_option maxHeartbeats 4000000 in
theorem fu_c (n : Nat) (hn : n < 18446744073709551616) (w : World) (hd : DB w) :
    Calls Tryz.prog 38 #[.int .u64 n, .int .i64 16] w fun e w' => e = .returned (.string ⟨(hexT n).toArray⟩) ∧ Below w.heap.size w w' := by
  have HF := Lib.hid (fui_c n hn w hd)
  clear hd
  go_enter Tryz.func38, Tryz.ntmps38
  go_wp2_with (go_at_call 74; refine HF.out.mono ?_; rintro x w' ⟨rfl, hb⟩)
  go_ret
  exact ⟨rfl, hb⟩
end Go.Proofs.YtjecdciabpjgcaaGreatDoor.Lz
namespace Go.Proofs.YtjecdciabpjgcaaGreatDoor.Lz
set_option linter.unusedVariables false
set_option linter.unusedSimpArgs false
open Go.RowKit Go.Proofs.YtjecdciabpjgcaaGreatDoorW.PrintWords Go.Proofs.YtjecdciabpjgcaaGreatDoor.Lx Go.Proofs.YtjecdciabpjgcaaGreatDoor.PLz
def rightB (bits : Int) : Prop := bits = 8 ∨ bits = 16 ∨ bits = 32 ∨ bits = 64
instance (bits : Int) : Decidable (rightB bits) := by unfold rightB; infer_instance
/-- An integer of so many bits, with its sign. -/
def sgnB (k : Nat) (v : Nat) : Int := if v % 2 ^ k < 2 ^ (k - 1) then ((v % 2 ^ k : Nat) : Int) else ((v % 2 ^ k : Nat) : Int) - (2 ^ k : Nat)
def showI (bits : Int) (v : Nat) : List UInt8 := if rightB bits then Lib.itoa (sgnB bits.toNat v) else []
theorem sgn_at (k v : Nat) (hk : k = 8 ∨ k = 16 ∨ k = 32 ∨ k = 64) : shr .i64 (wrap64 (shl .u64 (v : Int) ((64 - k : Nat) : Int))) ((64 - k : Nat) : Int) = sgnB k v := by
  have h1 : shl .u64 (v : Int) ((64 - k : Nat) : Int) = IntKind.u64.wrap ((v : Int) * (2 ^ (64 - k) : Nat)) := by
    unfold shl
    rcases hk with rfl | rfl | rfl | rfl <;> rfl
  have h2 : ∀ x : Int, shr .i64 x ((64 - k : Nat) : Int) = x / (2 ^ (64 - k) : Nat) := by
    intro x
    unfold shr
    rcases hk with rfl | rfl | rfl | rfl <;> rfl
  rw [h1, h2, IntKind.wrap_u64]
  unfold wrap64 sgnB
  rcases hk with rfl | rfl | rfl | rfl <;> simp only [Nat.reduceSub, Nat.reducePow] <;> split <;> omega
theorem sgn_c (k v : Nat) (hk : k = 8 ∨ k = 16 ∨ k = 32 ∨ k = 64) : ints_Signed.f (k : Int) (v : Int) = some (sgnB k v) := by
  have h := sgn_at k v hk
  unfold ints_Signed.f ints_right.f
  rcases hk with rfl | rfl | rfl | rfl
  all_goals
    rw [← h]
    rfl
theorem sgn_range (k v : Nat) (hk : k = 8 ∨ k = 16 ∨ k = 32 ∨ k = 64) : -9223372036854775808 ≤ sgnB k v ∧ sgnB k v ≤ 9223372036854775807 := by
  unfold sgnB
  rcases hk with rfl | rfl | rfl | rfl <;> simp only [Nat.reduceSub, Nat.reducePow] <;> split <;> omega
/-- The laid tables and MaxLen. -/
structure TW (w : World) : Prop where
  ml : ML w
  db : DB w
  p10 : Lib.TabIs Tryz.prog w "internal/strconv.uint64pow10" .u64 Lib.pow10Tab
theorem TW.below {w w' : World} (h : TW w) (hb : Below w.heap.size w w') : TW w' :=
  ⟨h.ml.below hb, db_below h.db hb, by
    obtain ⟨g, hg⟩ : ∃ g, Tryz.prog.globalNamed "internal/strconv.uint64pow10" = some g := by
      have := h.p10
      unfold Lib.TabIs World.var? at this
      cases hg : Tryz.prog.globalNamed "internal/strconv.uint64pow10" with
      | none => simp [hg] at this
      | some g => exact ⟨g, rfl⟩
    exact Go.Joins.tab_stays hg h.p10 hb (Nat.le_refl _)⟩
theorem fi_c (n : Int) (h : -9223372036854775808 ≤ n ∧ n ≤ 9223372036854775807) (w : World) (ht : TW w) :
    Calls Tryz.prog 33 #[.int .i64 n, .int .i64 10] w fun e w' => e = .returned (.string ⟨(Lib.itoa n).toArray⟩) ∧ Below w.heap.size w w' :=
  (Tryz.strconv_FormatInt_10 n h.1 h.2 w ht.p10).mono fun e w' hh => by
    obtain ⟨h1, k, os, rfl⟩ := hh
    exact ⟨h1, Lib.below_grow _ w (Nat.le_refl _) k os⟩
theorem it_c (n : Int) (h : -9223372036854775808 ≤ n ∧ n ≤ 9223372036854775807) (w : World) (ht : TW w) :
    Calls Tryz.prog 40 #[.int .i64 n] w fun e w' => e = .returned (.string ⟨(Lib.itoa n).toArray⟩) ∧ Below w.heap.size w w' :=
  (Tryz.strconv_Itoa n h.1 h.2 w ht.p10).mono fun e w' hh => by
    obtain ⟨h1, k, os, rfl⟩ := hh
    exact ⟨h1, Lib.below_grow _ w (Nat.le_refl _) k os⟩
set_option maxRecDepth 1000000 in
set_option maxHeartbeats 4000000 in
theorem showInt_c (bits : Int) (hb : -9223372036854775808 ≤ bits ∧ bits ≤ 9223372036854775807) (v : Nat) (w : World) (ht : TW w) :
    Calls Tryz.prog 13 #[.int .i64 bits, .int .u64 v] w fun e w' => e = .returned (.string ⟨(showI bits v).toArray⟩) ∧ Below w.heap.size w w' := by
  by_cases hr : rightB bits
  · have hS : showI bits v = Lib.itoa (sgnB bits.toNat v) := if_pos hr
    obtain ⟨k, hk, rfl⟩ : ∃ k : Nat, (k = 8 ∨ k = 16 ∨ k = 32 ∨ k = 64) ∧ bits = (k : Int) := ⟨bits.toNat, by unfold rightB at hr; omega, by unfold rightB at hr; omega⟩
    rw [Int.toNat_natCast] at hS
    have HSG := Lib.hid (fun w => ints_Signed.calls (k : Int) (v : Int) _ w (sgn_c k v hk))
    have hrg := sgn_range k v hk
    rw [hS]
    generalize sgnB k v = z at *
    have HFI := Lib.hid (fun w ht => fi_c z hrg w ht)
    have HT := Lib.hid ht
    clear hS ht hr hb hrg
    rcases hk with rfl | rfl | rfl | rfl
    all_goals
      go_enter Tryz.func13, Tryz.ntmps13
      go_wp2_with (first | (go_at_call 34; refine (HSG.out _).mono ?_; rintro x w1 ⟨rfl, hd⟩; have HB := Lib.hid (show Below w.heap.size w w1 from by obtain ⟨d, rfl⟩ := hd; exact pw_below_drewN (Below.refl _ _) _); clear hd) | (go_at_call 33; refine (HFI.out _ (HT.out.below HB.out)).mono ?_; rintro x w2 ⟨rfl, hb⟩; have HB2 := Lib.hid (below_step HB.out hb); clear hb))
      go_ret
      exact ⟨rfl, HB2.out⟩
  · have hS : showI bits v = [] := if_neg hr
    rw [hS]
    unfold rightB at hr
    simp only [not_or] at hr
    obtain ⟨e1, e2, e3, e4⟩ := hr
    have q1 : (bits != 8) = true := by simpa using e1
    have q2 : (bits != 16) = true := by simpa using e2
    have q3 : (bits != 32) = true := by simpa using e3
    have q4 : (bits != 64) = true := by simpa using e4
    clear hS e1 e2 e3 e4
    go_enter Tryz.func13, Tryz.ntmps13
    go_wp2
    go_ret
    exact ⟨rfl, Below.refl _ _⟩
end Go.Proofs.YtjecdciabpjgcaaGreatDoor.Lz
namespace Go.Proofs.YtjecdciabpjgcaaGreatDoor.Lx
open Go Go.RowKit
set_option linter.unusedVariables false
set_option maxRecDepth 100000 in
theorem ml_of {w : World} (h : w.ShapedOpen Tryz.prog) : ML w :=
  cell_of_shapedOpen_int (g := 1) (t := 3) (zero := #[.int .i64 0]) (k := .i64) h (of_decide_eq_true (by kernel_rfl)) (by kernel_rfl) rfl (by kernel_rfl) (by kernel_rfl) Tryz.underlying3
section
variable {H : Type} {enc : TypeId × Value → H}
/-- As the library's returnsInHanded_of_change_and, the world's shape handed on. -/
theorem returnsInHanded_shaped {a : Assume} {C : Checked} {os : Os} {f : FuncId} {fn : Func} {s : ChangeSpec} {conds : List PathCond} {apart fresh handsOn again : Bool} {X : World → Array Value → Prop}
    (hX : ∀ (w w' : World) (args : Array Value), w.heap = w'.heap → X w args → X w' args)
    (own : ownKnob C.prog.godebug = none) (started : os.Started) (noInit : C.prog.inits.idxOf? f = none) (hfn : C.prog.funcs[f]? = some fn)
    (witness : ∃ (w : World) (tape : Tape) (i : Input), w.os = os ∧ (w.forCall tape i).Shaped C.prog ∧ i.vars = [] ∧ Input.okWide C.prog (w.forCall tape i) .any w.heap.size f i ∧
      ((s.pre enc C.prog fn conds apart (w.forCall tape i).memory i.args ∧ X (w.forCall tape i).memory i.args) ∧ sizedMet enc C.prog fn (OpenSpec.ofChange s) apart (w.forCall tape i).memory i.args) ∧ a.holds C.prog (lone (Frame.enter C.prog f i.args .normal) [] (w.forCall tape i)))
    (contract : ∀ (W : World) (base : Nat) (args : Array Value) (ds gs : List (DataW H)) (before : List MemPlace),
      (∀ (j : Nat) t v, fn.params[j]? = some t → args[j]? = some v → Value.okWide C.prog W .any base t v) →
      DataW.Whole enc C.prog fn.params.toList s.vars apart W args.toList ds gs before →
      conds.all (PathCond.test C.prog ⟨fn.params.toList, ds, s.plain.varTypes C.prog, gs⟩) = true →
      (DataW.weightsEach C.prog (fn.params.toList ++ s.plain.varTypes C.prog) (ds ++ gs)).all (· ≤ reachBytes) = true → X W args → W.ShapedOpen C.prog →
      a.holds C.prog (lone (Frame.enter C.prog f args .normal) [] W) →
      Calls C.prog f args W fun e W' => ∃ v, e = .returned v ∧ s.post enc C.prog fn apart fresh handsOn again W args v W') :
    ReturnsInHanded a C os f .any (fun w args => (s.pre enc C.prog fn conds apart w args ∧ X w args) ∧ sizedMet enc C.prog fn (OpenSpec.ofChange s) apart w args) (s.post enc C.prog fn apart fresh handsOn again) := by
  refine returnsInHanded_of_calls own started noInit witness ?_
  intro w tape i _ hsh _ hok hpre hholds
  obtain ⟨_, _, _, fn', hfn', _, _, _, _, hval⟩ := hok
  have e : fn' = fn := Option.some.inj (hfn'.symm.trans hfn)
  subst e
  obtain ⟨⟨⟨ds, gs, before, hw, hc⟩, hx⟩, hz⟩ := hpre
  have hw' := DataW.Whole.of_heap (w' := w.forCall tape i) (by rfl) hw
  refine (contract (w.forCall tape i) w.heap.size i.args ds gs before hval hw' hc (hz.weights hw) (hX _ _ _ (by rfl) hx) hsh hholds).mono fun e W' ⟨v, he, hp⟩ => ?_
  subst he
  exact ChangeSpec.post_blind hp
end
end Go.Proofs.YtjecdciabpjgcaaGreatDoor.Lx
namespace Go.Proofs.YtjecdciabpjgcaaGreatDoor.Lz
set_option linter.unusedVariables false
open Go.ChangeShapes Go.WideShapes Go.ChangeAt Go.RowKit Go.Proofs.YtjecdciabpjgcaaGreatDoor.Lx
theorem tab_vars {P : Program} {W : World} {name : String} {k : IntKind} {zs : List Int} {rest : List (String × DataW Unit)} {g : Nat} {t e : TypeId} {n : Nat} {ps : List MemPlace}
    (hg : P.globalNamed name = some g) (hty : (P.globals[g]?).map (·.type) = some t) (ht : P.underlying t = some (.array n e)) (he : P.underlying e = some (.int k)) (hce : P.cellsOf e = 1) (hct : P.cellsOf t = n)
    (h : DataW.LaidVars P W ((name, Lib.tabData k zs) :: rest) ps) : Lib.TabIs P W name k zs ∧ ∃ q, DataW.LaidVars P W rest q := by
  obtain ⟨g', t', cs, fuel, p, q, hg', ht', hvar, hd, hr, _⟩ := h
  obtain rfl := Option.some.inj (hg.symm.trans hg')
  obtain rfl := Option.some.inj (hty.symm.trans ht')
  refine ⟨?_, q, hr⟩
  have := Lib.cells_of_tab ht he hce hct hd
  unfold Lib.TabIs
  rw [hvar, ← this]
theorem tw_of {W : World} (hsh : W.ShapedOpen Tryz.prog) (h : laidMetH Tryz.prog Rows.literalSignsRow.laid W) : TW W := by
  rw [MakeChecks.laidMetH_plain _ _ _ (by kernel_rfl)] at h
  obtain ⟨ps, hv, _⟩ := h
  obtain ⟨_, _, _, _, _, q1, _, _, _, _, hv1, _⟩ := hv
  have e64 : (Rows.laid_math_bits_deBruijn64tab : DataW Unit) = Lib.tabData .u8 (Lib.deBruijn64tab.map fun n => Int.ofNat n) := by kernel_rfl
  have e10 : (Rows.laid_internal_strconv_uint64pow10 : DataW Unit) = Lib.tabData .u64 Lib.pow10Tab := by kernel_rfl
  rw [e64] at hv1
  obtain ⟨t1, q2, hv2⟩ := tab_vars (g := 6) (t := 197) (e := 5) (n := 64) (by kernel_rfl) (by kernel_rfl) Tryz.underlying197 Tryz.underlying5 (by kernel_rfl) (by kernel_rfl) hv1
  rw [e10] at hv2
  obtain ⟨t2, _⟩ := tab_vars (g := 0) (t := 167) (e := 23) (n := 20) (by kernel_rfl) (by kernel_rfl) Tryz.underlying167 Tryz.underlying23 (by kernel_rfl) (by kernel_rfl) hv2
  refine ⟨ml_of hsh, fun j hj => ?_, t2⟩
  have := t1.cell (g := 6) (by kernel_rfl) j (by rw [List.length_map]; exact hj)
  rw [this]
  congr 2
  rw [List.getD_eq_getElem?_getD, List.getElem?_map, List.getD_eq_getElem?_getD]
  cases Lib.deBruijn64tab[j]? <;> rfl
end Go.Proofs.YtjecdciabpjgcaaGreatDoor.Lz
namespace Go.Proofs.YtjecdciabpjgcaaGreatDoor.Lz
set_option linter.unusedVariables false
set_option linter.unusedSimpArgs false
open Go.RowKit Go.Proofs.YtjecdciabpjgcaaGreatDoorW.PrintWords Go.Proofs.YtjecdciabpjgcaaGreatDoor.Lx Go.Proofs.YtjecdciabpjgcaaGreatDoor.PLz
/-- The second text has a _ between two digits of the first. -/
inductive Ins : List UInt8 → List UInt8 → Prop
  | here (c d : UInt8) (y : List UInt8) : isdec c = true → isdec d = true → Ins (c :: d :: y) (c :: 95 :: d :: y)
  | there (a : UInt8) {l m : List UInt8} : Ins l m → Ins (a :: l) (a :: m)
theorem Ins.app : ∀ (x : List UInt8) (c d : UInt8) (y : List UInt8), isdec c = true → isdec d = true → Ins (x ++ c :: d :: y) (x ++ c :: 95 :: d :: y)
  | [], c, d, y, h, g => .here c d y h g
  | a :: x, c, d, y, h, g => .there a (Ins.app x c d y h g)
theorem dec_ne {c : UInt8} (h : isdec c = true) {x : UInt8} (hx : isdec x = false) : c ≠ x := by rintro rfl; rw [h] at hx; cases hx
def good : List UInt8 → Bool
  | [] => true
  | a :: q => (!isdec a || (match q with | [] => false | b :: _ => !isdec b && b != 95)) && good q
theorem pre_ins : ∀ (p l m : List UInt8), Ins l m → good p = true → Lib.hasPrefix l p = Lib.hasPrefix m p ∧ (Lib.hasPrefix l p = true → Ins (l.drop p.length) (m.drop p.length))
  | [], l, m, h, _ => ⟨rfl, fun _ => h⟩
  | a :: q, l, m, h, hg => by
    unfold good at hg
    rw [Bool.and_eq_true] at hg
    cases h with
    | here c d y hc hd =>
      have e1 : ∀ t, Lib.hasPrefix (c :: d :: t) (a :: q) = false := by
        intro t
        by_cases ha : a = c
        · subst ha
          have := hg.1
          rw [hc] at this
          cases q with
          | nil => simp at this
          | cons b q =>
            simp only [Bool.not_true, Bool.false_or, Bool.and_eq_true, Bool.not_eq_true'] at this
            have hn : b ≠ d := fun h => (dec_ne hd this.1) h.symm
            simp [Lib.hasPrefix, List.isPrefixOf, hn]
        · simp [Lib.hasPrefix, List.isPrefixOf, ha]
      have e2 : ∀ t, Lib.hasPrefix (c :: 95 :: t) (a :: q) = false := by
        intro t
        by_cases ha : a = c
        · subst ha
          have := hg.1
          rw [hc] at this
          cases q with
          | nil => simp at this
          | cons b q =>
            simp only [Bool.not_true, Bool.false_or, Bool.and_eq_true, Bool.not_eq_true', bne_iff_ne, ne_eq] at this
            simp [Lib.hasPrefix, List.isPrefixOf, this.2]
        · simp [Lib.hasPrefix, List.isPrefixOf, ha]
      rw [e1, e2]
      exact ⟨rfl, fun h => by cases h⟩
    | there b h =>
      rename_i l m
      obtain ⟨h1, h2⟩ := pre_ins q l m h hg.2
      have e : ∀ t, Lib.hasPrefix (b :: t) (a :: q) = ((a == b) && Lib.hasPrefix t q) := fun t => rfl
      rw [e, e, h1]
      refine ⟨rfl, fun hh => ?_⟩
      rw [Bool.and_eq_true] at hh
      exact h2 (by rw [h1]; exact hh.2)
theorem trim_ins (p l m : List UInt8) (h : Ins l m) (hg : good p = true) : Ins (Lib.trimPrefix l p) (Lib.trimPrefix m p) := by
  obtain ⟨h1, h2⟩ := pre_ins p l m h hg
  unfold Lib.trimPrefix
  rw [← h1]
  split
  · rename_i hh; exact h2 hh
  · exact h
theorem sign_ins (l m : List UInt8) (h : Ins l m) : (signF l).1 = (signF m).1 ∧ Ins (signF l).2 (signF m).2 := by
  obtain ⟨h1, h2⟩ := pre_ins [45] l m h (by decide)
  unfold signF
  rw [← h1]
  split
  · rename_i hh; exact ⟨rfl, h2 hh⟩
  · exact ⟨rfl, trim_ins [43] l m h (by decide)⟩
theorem hex_ins (l m : List UInt8) (h : Ins l m) : (hexF l).1 = (hexF m).1 ∧ Ins (hexF l).2 (hexF m).2 :=
  ⟨(pre_ins [48, 120] l m h (by decide)).1, trim_ins [48, 120] l m h (by decide)⟩
theorem ne_ins : ∀ (l m : List UInt8), Ins l m → ∃ c ∈ l, isdec c = true
  | _, _, .here c d y hc hd => ⟨c, by simp, hc⟩
  | _, _, .there a h => by
    obtain ⟨c, hc, hd⟩ := ne_ins _ _ h
    exact ⟨c, by simp [hc], hd⟩
theorem ne_ins2 : ∀ (l m : List UInt8), Ins l m → ∃ c ∈ m, isdec c = true
  | _, _, .here c d y hc hd => ⟨c, by simp, hc⟩
  | _, _, .there a h => by
    obtain ⟨c, hc, hd⟩ := ne_ins2 _ _ h
    exact ⟨c, by simp [hc], hd⟩
theorem digs_ins : ∀ (l m : List UInt8), Ins l m → digs l = digs m
  | _, _, .here c d y hc hd => by
    have h1 : (c != 95) = true := by simpa using dec_ne hc (by decide)
    have h2 : (d != 95) = true := by simpa using dec_ne hd (by decide)
    simp [digs, List.filter_cons]
  | _, _, .there a h => by
    have := digs_ins _ _ h
    unfold digs at this ⊢
    rw [List.filter_cons, List.filter_cons, this]
theorem suf_cons (a : UInt8) (l : List UInt8) (h : l ≠ []) : Lib.hasSuffix (a :: l) [95] = Lib.hasSuffix l [95] := by
  have key : ∀ t : List UInt8, (Lib.hasSuffix t [95] = true) ↔ t.getLast? = some 95 := by
    intro t
    unfold Lib.hasSuffix
    rw [List.isSuffixOf_iff_suffix]
    constructor
    · rintro ⟨s, rfl⟩; simp
    · intro h
      obtain ⟨s, rfl⟩ := List.getLast?_eq_some_iff.1 h
      exact ⟨s, rfl⟩
  rw [Bool.eq_iff_iff, key, key]
  cases l with
  | nil => exact absurd rfl h
  | cons b l => rw [List.getLast?_cons_cons]
theorem con_cons (a b : UInt8) (l : List UInt8) : Lib.contains (a :: b :: l) [95, 95] = ((a == 95 && b == 95) || Lib.contains (b :: l) [95, 95]) := by
  have hg := Lib.index_ge (b :: l) [95, 95]
  unfold Lib.contains
  conv => lhs; unfold Lib.index
  by_cases h : [95, 95].isPrefixOf (a :: b :: l) = true
  · rw [if_pos h]
    have : (a == 95 && b == 95) = true := by
      simp only [List.isPrefixOf, Bool.and_true, Bool.and_eq_true, beq_iff_eq] at h
      simp [← h.1, ← h.2]
    rw [this]
    rfl
  · rw [if_neg h]
    have : (a == 95 && b == 95) = false := by
      cases hh : (a == 95 && b == 95) with
      | false => rfl
      | true =>
        simp only [Bool.and_eq_true, beq_iff_eq] at hh
        rw [hh.1, hh.2] at h
        exact absurd rfl h
    rw [this, Bool.false_or]
    by_cases g : Lib.index (b :: l) [95, 95] = -1
    · rw [if_pos (by simpa using g), g]
    · rw [if_neg (by simpa using g)]
      rw [Bool.eq_iff_iff]
      simp only [decide_eq_true_eq]
      omega
theorem ins_ne (l m : List UInt8) (h : Ins l m) : l ≠ [] ∧ m ≠ [] := by cases h <;> exact ⟨by simp, by simp⟩
theorem suf_ins : ∀ (l m : List UInt8), Ins l m → Lib.hasSuffix l [95] = Lib.hasSuffix m [95]
  | _, _, .here c d y hc hd => by rw [suf_cons c _ (by simp), suf_cons c _ (by simp), suf_cons 95 _ (by simp)]
  | _, _, .there a h => by rw [suf_cons a _ (ins_ne _ _ h).1, suf_cons a _ (ins_ne _ _ h).2, suf_ins _ _ h]
theorem con_ins : ∀ (l m : List UInt8), Ins l m → Lib.contains l [95, 95] = Lib.contains m [95, 95]
  | _, _, .here c d y hc hd => by
    have h1 : (c == 95) = false := by simpa using dec_ne hc (by decide)
    have h2 : (d == 95) = false := by simpa using dec_ne hd (by decide)
    rw [con_cons, con_cons, con_cons, h1, h2]
    rfl
  | _, _, .there a h => by
    have ih := con_ins _ _ h
    cases h with
    | here c d y hc hd =>
      rw [con_cons a, con_cons a, ih]
    | there b h =>
      rw [con_cons a, con_cons a, ih]
theorem row_ins (l m : List UInt8) (h : Ins l m) (hex : Bool) : rowF l hex = rowF m hex := by
  have h1 := (pre_ins [95] l m h (by decide)).1
  unfold rowF odd
  rw [digs_ins l m h, suf_ins l m h, con_ins l m h, h1]
theorem tw_ins (p : UInt8 → Bool) (hp : ∀ c, isdec c = true → p c = true) (h95 : p 95 = true) : ∀ (l m : List UInt8), Ins l m →
    (Ins (l.takeWhile p) (m.takeWhile p) ∧ l.dropWhile p = m.dropWhile p) ∨ (l.takeWhile p = m.takeWhile p ∧ Ins (l.dropWhile p) (m.dropWhile p))
  | _, _, .here c d y hc hd => by
    refine .inl ?_
    simp only [List.takeWhile_cons_of_pos (hp c hc), List.takeWhile_cons_of_pos (hp d hd), List.takeWhile_cons_of_pos h95, List.dropWhile_cons_of_pos (hp c hc), List.dropWhile_cons_of_pos (hp d hd), List.dropWhile_cons_of_pos h95]
    exact ⟨.here c d _ hc hd, trivial⟩
  | _, _, .there a h => by
    by_cases ha : p a = true
    · simp only [List.takeWhile_cons_of_pos ha, List.dropWhile_cons_of_pos ha]
      rcases tw_ins p hp h95 _ _ h with ⟨h1, h2⟩ | ⟨h1, h2⟩
      · exact .inl ⟨.there a h1, h2⟩
      · exact .inr ⟨by rw [h1], h2⟩
    · simp only [List.takeWhile_cons_of_neg ha, List.dropWhile_cons_of_neg ha]
      exact .inr ⟨trivial, .there a h⟩
theorem tail_ins (p : UInt8 → Bool) (hp : ∀ c, isdec c = true → p c = true) (l m : List UInt8) (h : Ins (l.dropWhile p) (m.dropWhile p)) :
    ∃ a b c, l.dropWhile p = a :: b ∧ m.dropWhile p = a :: c ∧ Ins b c := by
  have hd : ∀ x t, l.dropWhile p = x :: t → p x = false := by
    intro x t hx
    have := List.head_dropWhile_not p (l := l) (by rw [hx]; simp)
    simpa [hx] using this
  generalize l.dropWhile p = L at *
  generalize m.dropWhile p = M at *
  cases h with
  | here c d y hc hd' => have := hd c _ rfl; rw [hp c hc] at this; cases this
  | there a h => exact ⟨a, _, _, rfl, rfl, h⟩
theorem dw_drop (p : UInt8 → Bool) : ∀ l : List UInt8, l.dropWhile p = l.drop (l.takeWhile p).length
  | [] => rfl
  | a :: l => by
    by_cases h : p a = true
    · rw [List.dropWhile_cons_of_pos h, List.takeWhile_cons_of_pos h, List.length_cons, List.drop_succ_cons, dw_drop p l]
    · rw [List.dropWhile_cons_of_neg h, List.takeWhile_cons_of_neg h]; rfl
theorem powF_dw (hex : Bool) (t : List UInt8) : powF hex t = match t.dropWhile (noMk hex) with | [] => [48] | _ :: r => r := by
  unfold powF
  rw [dw_drop]
  have hle := (List.takeWhile_sublist (noMk hex) (l := t)).length_le
  split
  · rename_i h
    cases hd : t.drop (t.takeWhile (noMk hex)).length with
    | nil => rw [List.drop_eq_nil_iff] at hd; omega
    | cons a r =>
      have := congrArg (List.drop 1) hd
      rw [List.drop_drop] at this
      exact this
  · rename_i h
    rw [List.drop_eq_nil_iff.2 (by omega)]
theorem idx_one : ∀ (l : List UInt8) (c : UInt8), Lib.index l [c] = if c ∈ l then ((l.takeWhile (· != c)).length : Int) else -1
  | [], c => rfl
  | a :: l, c => by
    unfold Lib.index
    by_cases h : a = c
    · subst h
      rw [if_pos (by simp)]
      simp
    · rw [if_neg (by simp; exact fun e => h e.symm), idx_one l c]
      have hb : (a != c) = true := by simpa using h
      rw [List.takeWhile_cons_of_pos (p := fun x => x != c) hb]
      by_cases g : c ∈ l
      · have hm : c ∈ a :: l := List.mem_cons_of_mem _ g
        rw [if_pos hm, if_pos g, if_neg (fun h => by have := eq_of_beq h; omega)]
        simp
      · have hm : ¬ c ∈ a :: l := fun h' => by
          rcases List.mem_cons.1 h' with h' | h'
          · exact h h'.symm
          · exact g h'
        rw [if_neg hm, if_neg g]
        rfl
theorem tw_all (p : UInt8 → Bool) : ∀ l : List UInt8, (∀ c ∈ l, p c = true) → l.takeWhile p = l ∧ l.dropWhile p = []
  | [], _ => ⟨rfl, rfl⟩
  | a :: l, h => by
    have ha := h a (by simp)
    obtain ⟨h1, h2⟩ := tw_all p l (fun c hc => h c (by simp [hc]))
    rw [List.takeWhile_cons_of_pos ha, List.dropWhile_cons_of_pos ha, h1, h2]
    exact ⟨rfl, rfl⟩
theorem cut_dw (l : List UInt8) (c : UInt8) : (Lib.cut l [c]).1 = l.takeWhile (· != c) ∧ (Lib.cut l [c]).2.1 = (l.dropWhile (· != c)).tail := by
  unfold Lib.cut
  rw [idx_one, dw_drop]
  by_cases g : c ∈ l
  · rw [if_pos g, if_pos (by omega)]
    simp only [Int.toNat_natCast, List.length_singleton]
    refine ⟨?_, ?_⟩
    · exact (List.prefix_iff_eq_take.1 (List.takeWhile_prefix (· != c) (l := l))).symm
    · rw [List.tail_drop]
  · rw [if_neg g, if_neg (by decide)]
    have hall : ∀ x ∈ l, (x != c) = true := fun x hx => by simp; rintro rfl; exact g hx
    rw [(tw_all _ l hall).1]
    simp
theorem noMk_dec (hex : Bool) (c : UInt8) (h : isdec c = true) : noMk hex c = true := by
  have h1 := dec_ne h (x := 112) (by decide)
  have h2 := dec_ne h (x := 101) (by decide)
  have h3 := dec_ne h (x := 80) (by decide)
  have h4 := dec_ne h (x := 69) (by decide)
  cases hex <;> simp [noMk, mk1, mk2, h1, h2, h3, h4]
theorem rest_ins (t u : List UInt8) (h : Ins t u) :
    ((Ins (Lib.cut t [46]).1 (Lib.cut u [46]).1 ∧ (Lib.cut t [46]).2.1 = (Lib.cut u [46]).2.1) ∨ ((Lib.cut t [46]).1 = (Lib.cut u [46]).1 ∧ Ins (Lib.cut t [46]).2.1 (Lib.cut u [46]).2.1)) := by
  rw [(cut_dw t 46).1, (cut_dw u 46).1, (cut_dw t 46).2, (cut_dw u 46).2]
  have hp : ∀ c, isdec c = true → (c != 46) = true := fun c h => by simpa using dec_ne h (x := 46) (by decide)
  rcases tw_ins (· != 46) hp (by decide) t u h with ⟨h1, h2⟩ | ⟨h1, h2⟩
  · exact .inl ⟨h1, by rw [h2]⟩
  · obtain ⟨a, b, c, e1, e2, e3⟩ := tail_ins (· != 46) hp t u h2
    refine .inr ⟨h1, ?_⟩
    rw [e1, e2]
    exact e3
theorem num_ins (bits : Int) (hex : Bool) (t u : List UInt8) (h : Ins t u) : numF bits hex t = numF bits hex u := by
  have hp := noMk_dec hex
  have h95 : noMk hex 95 = true := by cases hex <;> decide
  have key : rowF (Lib.cut (manF hex t) [46]).1 hex = rowF (Lib.cut (manF hex u) [46]).1 hex ∧ rowF (Lib.cut (manF hex t) [46]).2.1 hex = rowF (Lib.cut (manF hex u) [46]).2.1 hex ∧
      (((Lib.cut (manF hex t) [46]).2.1 = []) ↔ ((Lib.cut (manF hex u) [46]).2.1 = [])) ∧ (signF (powF hex t)).1 = (signF (powF hex u)).1 ∧ rowF (signF (powF hex t)).2 false = rowF (signF (powF hex u)).2 false := by
    rw [powF_dw, powF_dw]
    unfold manF
    rcases tw_ins (noMk hex) hp h95 t u h with ⟨h1, h2⟩ | ⟨h1, h2⟩
    · rw [h2]
      rcases rest_ins _ _ h1 with ⟨g1, g2⟩ | ⟨g1, g2⟩
      · rw [g2]
        exact ⟨row_ins _ _ g1 hex, rfl, Iff.rfl, rfl, rfl⟩
      · rw [g1]
        have := ins_ne _ _ g2
        exact ⟨rfl, row_ins _ _ g2 hex, ⟨fun x => absurd x this.1, fun x => absurd x this.2⟩, rfl, rfl⟩
    · rw [h1]
      obtain ⟨a, b, c, e1, e2, e3⟩ := tail_ins (noMk hex) hp t u h2
      rw [e1, e2]
      obtain ⟨s1, s2⟩ := sign_ins b c e3
      exact ⟨rfl, rfl, Iff.rfl, s1, row_ins _ _ s2 false⟩
  obtain ⟨k1, k2, k3, k4, k5⟩ := key
  unfold numF
  simp only [k1, k2, k3, k4, k5]
theorem mag_ins (bits : Int) (t u : List UInt8) (h : Ins t u) : magF bits t = magF bits u := by
  unfold magF
  have n1 : ∀ p : List UInt8, (p.all fun c => !isdec c) = true → t ≠ p ∧ u ≠ p := by
    intro p hp
    rw [List.all_eq_true] at hp
    refine ⟨?_, ?_⟩
    · rintro rfl
      obtain ⟨c, hc, hd⟩ := ne_ins _ _ h
      have := hp c hc
      rw [hd] at this; cases this
    · rintro rfl
      obtain ⟨c, hc, hd⟩ := ne_ins2 _ _ h
      have := hp c hc
      rw [hd] at this; cases this
  have i1 := n1 [105, 110, 102] (by decide)
  have i2 := n1 [110, 97, 110] (by decide)
  rw [if_neg i1.1, if_neg i1.2, if_neg i2.1, if_neg i2.2]
  obtain ⟨p1, p2⟩ := pre_ins nanL t u h (by decide)
  rw [← p1]
  split
  · unfold nanF
    rw [row_ins _ _ (trim_ins nanL t u h (by decide)) true]
  · obtain ⟨q1, q2⟩ := hex_ins t u h
    rw [← q1]
    exact num_ins bits _ _ _ q2
theorem float_ins (bits : Int) (t u : List UInt8) (h : Ins t u) : floatF bits t = floatF bits u := by
  obtain ⟨s1, s2⟩ := sign_ins t u h
  unfold floatF
  simp only [s1, mag_ins bits _ _ s2]
theorem int_ins (bits : Int) (t u : List UInt8) (h : Ins t u) : intF bits t = intF bits u := by
  obtain ⟨s1, s2⟩ := sign_ins t u h
  obtain ⟨q1, q2⟩ := hex_ins _ _ s2
  have r := row_ins _ _ q2 (hexF (signF u).2).1
  unfold intF
  simp only [s1, q1, r]
theorem sign_end (l : List UInt8) : ∃ m, (signF (l ++ [95])).2 = m ++ [95] := by
  unfold signF
  cases l with
  | nil => exact ⟨[], rfl⟩
  | cons a l =>
    split
    · exact ⟨l, rfl⟩
    · unfold Lib.trimPrefix
      split
      · exact ⟨l, rfl⟩
      · exact ⟨a :: l, rfl⟩
theorem drop_end (p l : List UInt8) (hp : p.getLast? ≠ some 95) (h : Lib.hasPrefix (l ++ [95]) p = true) : ∃ m, (l ++ [95]).drop p.length = m ++ [95] := by
  unfold Lib.hasPrefix at h
  rw [List.isPrefixOf_iff_prefix] at h
  obtain ⟨r, hr⟩ := h
  rw [← hr, List.drop_left]
  have hl := congrArg List.getLast? hr
  rw [List.getLast?_append, List.getLast?_append] at hl
  simp only [List.getLast?_singleton, Option.some_or] at hl
  cases hg : r.getLast? with
  | none => rw [hg] at hl; simp only [Option.none_or] at hl; exact absurd hl hp
  | some x =>
    rw [hg] at hl
    simp only [Option.some_or] at hl
    rw [hl] at hg
    obtain ⟨s, rfl⟩ := List.getLast?_eq_some_iff.1 hg
    exact ⟨s, rfl⟩
theorem trim_end (p l : List UInt8) (hp : p.getLast? ≠ some 95) : ∃ m, Lib.trimPrefix (l ++ [95]) p = m ++ [95] := by
  unfold Lib.trimPrefix
  split
  · rename_i h; exact drop_end p l hp h
  · exact ⟨l, rfl⟩
theorem row_end (l : List UInt8) (hex : Bool) : (rowF (l ++ [95]) hex).2 = false := by
  have : odd (l ++ [95]) = true := by
    unfold odd
    have : Lib.hasSuffix (l ++ [95]) [95] = true := by unfold Lib.hasSuffix; rw [List.isSuffixOf_iff_suffix]; exact ⟨l, rfl⟩
    rw [this]
    simp
  unfold rowF
  split
  · rw [this]; simp
  · rfl
theorem tw_end (p : UInt8 → Bool) (h95 : p 95 = true) : ∀ l : List UInt8, ((l ++ [95]).takeWhile p = l ++ [95] ∧ (l ++ [95]).dropWhile p = []) ∨ ∃ a m, (l ++ [95]).dropWhile p = a :: (m ++ [95])
  | [] => .inl ⟨by simp [h95], by simp [h95]⟩
  | a :: l => by
    by_cases ha : p a = true
    · rw [List.cons_append, List.takeWhile_cons_of_pos ha, List.dropWhile_cons_of_pos ha]
      rcases tw_end p h95 l with ⟨h1, h2⟩ | h
      · exact .inl ⟨by rw [h1], h2⟩
      · exact .inr h
    · rw [List.cons_append, List.dropWhile_cons_of_neg ha]
      exact .inr ⟨a, l, rfl⟩
theorem num_end (bits : Int) (hex : Bool) (l : List UInt8) : (numF bits hex (l ++ [95])).2 = false := by
  have h95 : noMk hex 95 = true := by cases hex <;> decide
  unfold numF
  simp only
  rw [powF_dw]
  unfold manF
  rw [if_neg]
  rintro ⟨h1, h2, h3⟩
  rcases tw_end (noMk hex) h95 l with ⟨g1, g2⟩ | ⟨a, m, g⟩
  · rw [g1, (cut_dw _ 46).1] at h1
    rw [g1, (cut_dw _ 46).2] at h2
    rcases tw_end (· != 46) (by decide) l with ⟨k1, k2⟩ | ⟨b, n, k⟩
    · rw [k1, row_end] at h1; cases h1
    · rw [k, List.tail_cons, row_end] at h2
      rcases h2 with h2 | h2
      · cases h2
      · simp at h2
  · rw [g] at h3
    obtain ⟨n, hn⟩ := sign_end m
    simp only at h3
    rw [hn, row_end] at h3
    cases h3
theorem mag_end (bits : Int) (l : List UInt8) : (magF bits (l ++ [95])).2 = false := by
  unfold magF
  have n1 : ∀ p : List UInt8, p.getLast? ≠ some 95 → l ++ [95] ≠ p := by rintro p hp rfl; simp at hp
  rw [if_neg (n1 _ (by decide)), if_neg (n1 _ (by decide))]
  split
  · obtain ⟨m, hm⟩ := trim_end nanL l (by decide)
    rw [hm]
    unfold nanF
    simp only [row_end, Bool.false_and]
  · obtain ⟨m, hm⟩ := trim_end [48, 120] l (by decide)
    unfold hexF
    simp only
    rw [hm]
    exact num_end bits _ m
theorem float_end (bits : Int) (l : List UInt8) : (floatF bits (l ++ [95])).2 = false := by
  obtain ⟨m, hm⟩ := sign_end l
  unfold floatF
  simp only
  split
  · rw [hm, mag_end, if_neg Bool.false_ne_true]
  · rfl
theorem sign_plus (l : List UInt8) : signF (43 :: l) = (false, l) := by
  unfold signF Lib.trimPrefix
  rw [if_neg (by simp [Lib.hasPrefix, List.isPrefixOf]), if_pos (by simp [Lib.hasPrefix, List.isPrefixOf])]; rfl
theorem sign_minus (l : List UInt8) : signF (45 :: l) = (true, l) := by
  unfold signF
  rw [if_pos (by simp [Lib.hasPrefix, List.isPrefixOf])]; rfl
theorem sign_none (a : UInt8) (l : List UInt8) (h1 : a ≠ 43) (h2 : a ≠ 45) : signF (a :: l) = (false, a :: l) := by
  unfold signF Lib.trimPrefix
  rw [if_neg (by simp [Lib.hasPrefix, List.isPrefixOf]; exact fun e => h2 e.symm), if_neg (by simp [Lib.hasPrefix, List.isPrefixOf]; exact fun e => h1 e.symm)]
def topI (bits : Int) : Int := if bits = 32 then 2147483648 else 9223372036854775808
theorem topI_inf (bits : Int) (hb : bits = 32 ∨ bits = 64) : 0 ≤ infF bits ∧ infF bits < topI bits ∧ Fl.canon bits < topI bits ∧ 0 ≤ Fl.canon bits := by
  rcases hb with rfl | rfl <;> decide +kernel
theorem roundF_nn (n : Int) (neg : Bool) (m : Nat) (e : Int) (more : Bool) : 0 ≤ (Pure.roundF n neg m e more).1 := by
  unfold Pure.roundF
  split <;> simp
theorem binF_nn (bits : Int) (l : List UInt8) (e : Int) : 0 ≤ binF bits l e := by
  unfold binF
  split <;> exact roundF_nn _ _ _ _ _
theorem decF_nn (bits : Int) (l : List UInt8) (e : Int) : 0 ≤ decF bits l e := by
  unfold decF decQ
  dsimp only
  split
  · exact Int.le_refl _
  · split
    · exact roundF_nn _ _ _ _ _
    · exact roundF_nn _ _ _ _ _
theorem nan_arith (bits : Int) (hb : bits = 32 ∨ bits = 64) (n : Nat) (h : (n : Int) < IntKind.u64.wrap (IntKind.u64.wrap (Fl.canon bits - infF bits) * 2)) :
    ∃ v : Nat, Go.bits .or .u64 (infF bits) (n : Int) = (v : Int) ∧ (v : Int) < topI bits := by
  rcases hb with rfl | rfl
  · have e : IntKind.u64.wrap (IntKind.u64.wrap (Fl.canon 32 - infF 32) * 2) = 8388608 := by decide +kernel
    rw [e] at h
    have ei : infF 32 = ((2139095040 : Nat) : Int) := by decide +kernel
    rw [ei, bits_or_u64_nat 2139095040 n (by omega) (by omega)]
    refine ⟨_, rfl, ?_⟩
    have := Nat.or_lt_two_pow (x := 2139095040) (y := n) (n := 31) (by decide) (by omega)
    unfold topI
    simp only [if_true]
    omega
  · have e : IntKind.u64.wrap (IntKind.u64.wrap (Fl.canon 64 - infF 64) * 2) = 4503599627370496 := by decide +kernel
    rw [e] at h
    have ei : infF 64 = ((9218868437227405312 : Nat) : Int) := by decide +kernel
    rw [ei, bits_or_u64_nat 9218868437227405312 n (by omega) (by omega)]
    refine ⟨_, rfl, ?_⟩
    have := Nat.or_lt_two_pow (x := 9218868437227405312) (y := n) (n := 63) (by decide) (by omega)
    unfold topI
    rw [if_neg (by decide)]
    omega
theorem mag_rg (bits : Int) (hb : bits = 32 ∨ bits = 64) (l : List UInt8) (h : (magF bits l).2 = true) : 0 ≤ (magF bits l).1 ∧ (magF bits l).1 < topI bits := by
  obtain ⟨t1, t2, t3, t4⟩ := topI_inf bits hb
  revert h
  unfold magF
  split
  · intro; exact ⟨t1, t2⟩
  · split
    · intro; exact ⟨t4, t3⟩
    · split
      · intro h
        unfold nanF at h ⊢
        simp only [Bool.and_eq_true, decide_eq_true_eq] at h ⊢
        obtain ⟨v, hv, hl⟩ := nan_arith bits hb _ h.2
        unfold nanF.bits_or
        rw [hv]
        exact ⟨by omega, hl⟩
      · unfold numF
        simp only
        split
        · intro h
          have h := of_decide_eq_true h
          refine ⟨?_, by omega⟩
          split
          · exact binF_nn _ _ _
          · exact decF_nn _ _ _
        · intro h; cases h
theorem topv_or (v k : Nat) (h : v < 2 ^ k) : v ||| 2 ^ k = v + 2 ^ k := by
  have := Nat.two_pow_add_eq_or_of_lt h 1
  rw [Nat.mul_one] at this
  rw [Nat.or_comm, ← this, Nat.add_comm]
/-- The three readings of a text without a sign. -/
theorem signs3 (bits : Int) (a : UInt8) (l : List UInt8) (h1 : a ≠ 43) (h2 : a ≠ 45) :
    floatF bits (43 :: a :: l) = floatF bits (a :: l) ∧ (floatF bits (45 :: a :: l)).2 = (floatF bits (a :: l)).2 ∧
      ((floatF bits (a :: l)).2 = true → (bits = 32 ∨ bits = 64) ∧ 0 ≤ (floatF bits (a :: l)).1 ∧ (floatF bits (a :: l)).1 < topI bits ∧ (floatF bits (45 :: a :: l)).1 = (floatF bits (a :: l)).1 + topI bits) := by
  unfold floatF
  rw [sign_plus, sign_minus, sign_none a l h1 h2]
  simp only
  by_cases hb : bits = 32 ∨ bits = 64
  · simp only [if_pos hb]
    by_cases hm : (magF bits (a :: l)).2 = true
    · simp only [if_pos hm]
      obtain ⟨r1, r2⟩ := mag_rg bits hb _ hm
      refine ⟨trivial, trivial, fun _ => ⟨hb, ?_⟩⟩
      generalize (magF bits (a :: l)).1 = v at *
      obtain ⟨v, rfl⟩ : ∃ n : Nat, v = (n : Int) := ⟨v.toNat, by omega⟩
      have u0 : upF bits false = ((0 : Nat) : Int) := rfl
      have u1 : upF bits true = topI bits := rfl
      rw [u0, u1]
      rcases hb with rfl | rfl
      · have t32 : topI 32 = ((2 ^ 31 : Nat) : Int) := rfl
        rw [t32] at r2 ⊢
        rw [bits_or_u64_nat v 0 (by omega) (by omega), bits_or_u64_nat v (2 ^ 31) (by omega) (by decide), Nat.or_zero, topv_or v 31 (by omega)]
        omega
      · have t64 : topI 64 = ((2 ^ 63 : Nat) : Int) := rfl
        rw [t64] at r2 ⊢
        rw [bits_or_u64_nat v 0 (by omega) (by omega), bits_or_u64_nat v (2 ^ 63) (by omega) (by decide), Nat.or_zero, topv_or v 63 (by omega)]
        omega
    · simp only [if_neg hm]
      exact ⟨trivial, trivial, fun h => by cases h⟩
  · simp only [if_neg hb]
    exact ⟨trivial, trivial, fun h => by cases h⟩
end Go.Proofs.YtjecdciabpjgcaaGreatDoor.Lz
namespace Go.Proofs.YtjecdciabpjgcaaGreatDoor.Lz
set_option linter.unusedVariables false
set_option linter.unusedSimpArgs false
open Go.RowKit Go.Proofs.YtjecdciabpjgcaaGreatDoorW.PrintWords Go.Proofs.YtjecdciabpjgcaaGreatDoor.Lx Go.Proofs.YtjecdciabpjgcaaGreatDoor.PLz
/-- A number without its factors of two, and the power that takes them. -/
def strip (m : Nat) (e : Int) : Nat × Int := if h : m % 2 = 0 ∧ 0 < m then strip (m / 2) (e + 1) else (m, e)
termination_by m
decreasing_by omega
theorem strip_odd (m : Nat) (e : Int) (h : m % 2 = 1) : strip m e = (m, e) := by rw [strip, dif_neg (by omega)]
theorem strip_even (m : Nat) (e : Int) (h : m % 2 = 0) (h0 : 0 < m) : strip m e = strip (m / 2) (e + 1) := by rw [strip, dif_pos ⟨h, h0⟩]
def signT (k v : Nat) : List UInt8 := if v / 2 ^ (k - 1) % 2 = 1 then [45] else []
def plainV (k v : Nat) : Nat := v % 2 ^ (k - 1)
def showF (bits : Int) (v : Nat) : List UInt8 :=
  let kd := Fl.kindF bits v
  let sg := signT bits.toNat v
  let p := plainV bits.toNat v
  if kd = 0 then [] else
  if kd = 1 then sg ++ [48, 120, 48, 112, 48] else
  if kd = 3 then sg ++ [105, 110, 102] else
  if (p : Int) = Fl.canon bits then sg ++ [110, 97, 110] else
  if kd = 4 then sg ++ [110, 97, 110, 58, 48, 120] ++ hexT (IntKind.u64.wrap ((p : Int) - infF bits)).toNat else
  let q := Pure.partsF bits p
  let s := strip q.2.1.toNat q.2.2.1
  sg ++ [48, 120] ++ hexT s.1 ++ [112] ++ Lib.itoa s.2
theorem kind_c (bits : Int) (v : Nat) (hv : v < 18446744073709551616) (w : World) :
    Calls Tryz.prog 35 #[.int .i64 bits, .int .u64 v] w fun x w' => x = .returned (.int .i64 (Fl.kindF bits v)) ∧ Below w.heap.size w w' :=
  floats_Kind.calls bits v _ w (Pure.c_Kind bits v hv)
theorem parts_c (bits : Int) (v : Nat) (hv : v < 18446744073709551616) (q : Bool × Int × Int × Int) (h : Pure.partsF bits v = q) (w : World) :
    Calls Tryz.prog 39 #[.int .i64 bits, .int .u64 v] w fun x w' => x = .returned (.tuple #[.bool q.1, .int .u64 q.2.1, .int .i64 q.2.2.1, .int .i64 q.2.2.2]) ∧ Below w.heap.size w w' :=
  floats_Parts.calls 1 bits v _ _ _ _ w (by rw [Pure.c_Parts bits v hv 1 (Nat.le_refl _), h])
theorem hexT_len : ∀ (k n : Nat), n < 16 ^ k → 1 ≤ k → (hexT n).length ≤ k
  | 0, n, _, h => by omega
  | k + 1, n, h, _ => by
    by_cases h16 : n < 16
    · rw [hexT_lt n h16]; simp
    · have hk : 1 ≤ k := by
        rcases Nat.eq_zero_or_pos k with rfl | h0
        · simp at h; omega
        · exact h0
      have := hexT_len k (n / 16) (by rw [Nat.pow_succ] at h; exact Nat.div_lt_of_lt_mul (by omega)) hk
      rw [hexT_ge n (by omega), List.length_append, List.length_singleton]
      omega
theorem kind_rg (bits : Int) (h : bits = 32 ∨ bits = 64) (v : Int) : 1 ≤ Fl.kindF bits v ∧ Fl.kindF bits v ≤ 4 := by
  unfold Fl.kindF
  rw [if_neg (by omega)]
  repeat' split
  all_goals omega
theorem and_one (x : Nat) (hx : x < 18446744073709551616) : bits .and .u64 (x : Int) 1 = ((x % 2 : Nat) : Int) := by
  rw [show (1 : Int) = ((1 : Nat) : Int) from rfl, bits_and_u64_nat x 1 hx (by omega), Nat.and_one_is_mod]
theorem and_31 (x : Nat) (hx : x < 18446744073709551616) : bits .and .u64 (x : Int) 2147483647 = ((plainV 32 x : Nat) : Int) := by
  rw [show (2147483647 : Int) = ((2147483647 : Nat) : Int) from rfl, bits_and_u64_nat x _ hx (by omega), show (2147483647 : Nat) = 2 ^ 31 - 1 from rfl, Nat.and_two_pow_sub_one_eq_mod]
  rfl
theorem and_63 (x : Nat) (hx : x < 18446744073709551616) : bits .and .u64 (x : Int) 9223372036854775807 = ((plainV 64 x : Nat) : Int) := by
  rw [show (9223372036854775807 : Int) = ((9223372036854775807 : Nat) : Int) from rfl, bits_and_u64_nat x _ hx (by omega), show (9223372036854775807 : Nat) = 2 ^ 63 - 1 from rfl, Nat.and_two_pow_sub_one_eq_mod]
  rfl
theorem pow_bound (m j : Nat) (hm : 0 < m) (h : m * 2 ^ j < 18446744073709551616) : j < 64 := by
  rcases Nat.lt_or_ge j 64 with h1 | h1
  · exact h1
  · have h2 : 2 ^ 64 ≤ 2 ^ j := Nat.pow_le_pow_right (by decide) h1
    have h3 : 1 * 2 ^ j ≤ m * 2 ^ j := Nat.mul_le_mul_right _ hm
    have : (2 : Nat) ^ 64 = 18446744073709551616 := by decide
    omega
theorem plain_lt (k v : Nat) : plainV k v < 2 ^ (k - 1) := Nat.mod_lt _ (Nat.two_pow_pos _)
theorem sz_sgn (bits : Int) (hb : bits = 32 ∨ bits = 64) {p q : Int} {f : Ieee.Format} (S : Pure.Sz bits p q f) : f.signWeight = 2 ^ (bits.toNat - 1) := by
  rcases S.pq with ⟨_, _, rfl⟩ | ⟨_, _, rfl⟩
  · have hf := S.fm
    rcases hb with rfl | rfl
    · rw [Fl.s_sgn]; rfl
    · exact absurd (congrArg (fun g : Ieee.Format => g.fractionBits) hf) (by decide)
  · have hf := S.fm
    rcases hb with rfl | rfl
    · exact absurd (congrArg (fun g : Ieee.Format => g.fractionBits) hf) (by decide)
    · rw [Fl.d_sgn]; rfl
/-- The parts of what is plain of a number. -/
theorem parts_two (bits : Int) (hb : bits = 32 ∨ bits = 64) (v : Nat) (hv : v < 18446744073709551616) (hk : Fl.kindF bits (v : Int) = 2) :
    ∃ (M : Nat) (E : Int), Pure.partsF bits (plainV bits.toNat v) = (false, (M : Int), E, 0) ∧ 0 < M ∧ M < 18446744073709551616 ∧ -1074 ≤ E ∧ E ≤ 2046 := by
  obtain ⟨p, q, f, S⟩ := Pure.sz bits hb
  have hsg := sz_sgn bits hb S
  have hP : plainV bits.toNat v < f.signWeight := by rw [hsg]; exact plain_lt _ _
  have hrv : Fl.rungOf f (Fl.wOf bits (v : Int)) = plainV bits.toNat v := by
    rw [← (S.same v hv).1]
    unfold Fl.rungOf plainV
    rw [hsg]
  have hpl : plainV bits.toNat v < 18446744073709551616 := by
    have h1 := plain_lt bits.toNat v
    rcases hb with rfl | rfl
    · have e : (2 : Nat) ^ ((32 : Int).toNat - 1) = 2147483648 := rfl
      rw [e] at h1; omega
    · have e : (2 : Nat) ^ ((64 : Int).toNat - 1) = 9223372036854775808 := rfl
      rw [e] at h1; omega
  have hwp : Fl.wOf bits ((plainV bits.toNat v : Nat) : Int) = plainV bits.toNat v := by
    rw [← S.cut _ hpl]
    exact Nat.mod_eq_of_lt (by omega)
  have hrp : Fl.rungOf f (plainV bits.toNat v) = plainV bits.toNat v := Nat.mod_eq_of_lt hP
  have hkp : Fl.kindF bits ((plainV bits.toNat v : Nat) : Int) = 2 := by
    rw [← hk]
    unfold Fl.kindF
    rw [S.fm, hwp, hrv]
    unfold Fl.nanW
    rw [hrv, hrp]
  have hz : Fl.rungOf f (Fl.wOf bits (v : Int)) ≠ 0 ∧ Fl.rungOf f (Fl.wOf bits (v : Int)) < f.infRung := by
    have h2 := Pure.kind_num S v (.inr hk)
    refine ⟨fun h0 => ?_, h2⟩
    unfold Fl.kindF at hk
    rw [if_neg (by omega), S.fm, if_pos h0] at hk
    cases hk
  rw [hrv] at hz
  have hml := Fl.mag_lt f (Fl.rungOf f (plainV bits.toNat v))
  refine ⟨Fl.magOf f (Fl.rungOf f (plainV bits.toNat v)), f.leastPlace + (Fl.plOf f (Fl.rungOf f (plainV bits.toNat v)) : Int), ?_, ?_, ?_⟩
  · unfold Pure.partsF
    rw [if_pos (.inr hkp), S.fm, hwp]
    have hng : Fl.negOf f (plainV bits.toNat v) = false := by unfold Fl.negOf; rw [Nat.div_eq_of_lt hP]; rfl
    rw [hng]
  · have : 0 < f.binade := Fl.pw_pos _
    rw [hrp]
    unfold Fl.magOf
    split
    · omega
    · omega
  · rw [hrp] at hml ⊢
    rcases S.pq with ⟨_, _, rfl⟩ | ⟨_, _, rfl⟩
    · unfold Fl.plOf
      rw [Fl.s_bin] at hml ⊢
      rw [Fl.s_least]
      rw [Fl.s_inf] at hz
      omega
    · unfold Fl.plOf
      rw [Fl.d_bin] at hml ⊢
      rw [Fl.d_least]
      rw [Fl.d_inf] at hz
      omega
structure SfR (w : World) (M : Nat) (E : Int) (v12 v13 : Value) (wr : World) : Prop where mk ::
  (out : ∃ (m j : Nat), v12 = .int .u64 (m : Int) ∧ v13 = .int .i64 (E + (j : Int)) ∧ 0 < m ∧ M = m * 2 ^ j ∧ strip M E = strip m (E + (j : Int)) ∧ Below w.heap.size w wr)
set_option maxRecDepth 1000000 in
set_option maxHeartbeats 4000000 in
theorem showFloat_none (bits : Int) (hb : ¬ (bits = 32 ∨ bits = 64)) (v : Nat) (hv : v < 18446744073709551616) (w : World) :
    Calls Tryz.prog 14 #[.int .i64 bits, .int .u64 v] w fun e w' => e = .returned (.string ⟨(showF bits v).toArray⟩) ∧ Below w.heap.size w w' := by
  have hk : Fl.kindF bits v = 0 := by unfold Fl.kindF; rw [if_pos (by omega)]
  have hS : showF bits v = [] := by unfold showF; simp only [hk, if_true]
  have HK := Lib.hid (kind_c bits v hv w)
  rw [hS]
  rw [hk] at HK
  clear hS hk hb
  go_enter Tryz.func14, Tryz.ntmps14
  go_wp2_with (go_at_call 35; refine HK.out.mono ?_; rintro x w1 ⟨rfl, hb⟩; have HB := Lib.hid hb; clear hb)
  go_ret
  exact ⟨rfl, HB.out⟩
set_option maxRecDepth 1000000 in
set_option maxHeartbeats 4000000 in
theorem showFloat_64 (v : Nat) (hv : v < 18446744073709551616) (w : World) (ht : TW w) :
    Calls Tryz.prog 14 #[.int .i64 64, .int .u64 v] w fun e w' => e = .returned (.string ⟨(showF 64 v).toArray⟩) ∧ Below w.heap.size w w' := by
  have hkr := kind_rg 64 (.inr rfl) v
  obtain ⟨kd, hkd⟩ : ∃ kd, Fl.kindF 64 (v : Int) = kd := ⟨_, rfl⟩
  obtain ⟨R, hR⟩ : ∃ R, showF 64 v = R := ⟨_, rfl⟩
  have HK := Lib.hid (kind_c 64 v hv w)
  have HCA := Lib.hid (fun w => canon_c 64 (.inr rfl) w)
  obtain ⟨r, hr⟩ : ∃ r, Pure.roundF 64 false 1 4000 false = r := ⟨_, rfl⟩
  have HRD := Lib.hid (fun w => round_c 64 1 (by decide) _ _ r hr w)
  have hz1 : ((1 : Nat) : Int) = 1 := rfl
  rw [hz1] at HRD
  have hinf : infF 64 = r.1 := by unfold infF; rw [hr]
  obtain ⟨I, hI⟩ : ∃ I, infF 64 = I := ⟨_, rfl⟩
  have hI2 : r.1 = I := by rw [← hinf, hI]
  rw [hI2] at HRD
  obtain ⟨N, hN⟩ : ∃ N, Fl.canon 64 = N := ⟨_, rfl⟩
  rw [hN] at HCA
  rw [hR]
  unfold showF at hR
  rw [show (64 : Int).toNat = 64 from rfl] at hR
  rw [hkd] at hkr HK
  simp only [hkd, hN, hI] at hR
  have hs1 : bits .and .u64 ((v : Int) / 9223372036854775808) 1 = ((v / 2 ^ 63 % 2 : Nat) : Int) := and_one (v / 9223372036854775808) (by omega)
  have hp1 := and_63 v hv
  obtain ⟨sg, hsg⟩ : ∃ sg, signT 64 v = sg := ⟨_, rfl⟩
  rw [hsg] at hR
  have hsb : v / 2 ^ 63 % 2 = 0 ∨ v / 2 ^ 63 % 2 = 1 := by omega
  unfold signT at hsg
  rw [show 64 - 1 = 63 from rfl] at hsg
  generalize v / 2 ^ 63 % 2 = sb at *
  have HRR := Lib.hid hR
  have HT := Lib.hid ht
  have hk0 : (kd == 0) = false := by simp only [beq_eq_false_iff_ne, ne_eq]; omega
  have hpl : plainV 64 v < 18446744073709551616 := by
    have h1 := plain_lt 64 v
    have e : (2 : Nat) ^ (64 - 1) = 9223372036854775808 := rfl
    rw [e] at h1; omega
  have HP2 := Lib.hid (fun h2 : kd = 2 => parts_two 64 (.inr rfl) v hv (hkd.trans h2))
  rw [show (64 : Int).toNat = 64 from rfl] at HP2
  clear hr hz1 hinf hI2 hR hkd hI hN ht
  go_enter Tryz.func14, Tryz.ntmps14
  go_upto_if 26 with (go_at_call 35; refine HK.out.mono ?_; rintro x w1 ⟨rfl, hb⟩; have HB := Lib.hid hb; clear hb)
  go_cut [6] (fun v6 wc => v6 = .string ⟨sg.toArray⟩ ∧ Below w.heap.size w wc)
  case first =>
    rcases hsb with rfl | rfl
    · rw [if_neg (by omega)] at hsg
      subst hsg
      go_wp2
      go_meet
      case rel => exact ⟨rfl, HB.out⟩
    · rw [if_pos rfl] at hsg
      subst hsg
      go_wp2
      go_meet
      case rel => exact ⟨rfl, HB.out⟩
  case rest =>
    obtain ⟨rfl, hb3⟩ := hcut
    have HB3 := Lib.hid hb3
    have hsl : sg.length ≤ 1 := by rw [← hsg]; split <;> simp
    have hsz : (⟨sg.toArray⟩ : ByteArray).size = sg.length := size_arr sg
    clear hb3 hsb hsg hs1
    have hR := HRR.out
    clear HRR
    rw [if_neg (by omega)] at hR
    by_cases hk1 : kd = 1
    · rw [if_pos hk1] at hR
      have HRR := Lib.hid hR
      have hap : (⟨sg.toArray⟩ : ByteArray) ++ ⟨#[48, 120, 48, 112, 48]⟩ = ⟨(sg ++ [48, 120, 48, 112, 48]).toArray⟩ := ba_app1 sg [48, 120, 48, 112, 48]
      subst hk1
      clear hR hkr hk0 HK
      go_wp2_with (first | (go_at_call 36; refine (HCA.out _).mono ?_; rintro x w2 ⟨rfl, hb⟩; have HB4 := Lib.hid (below_step HB3.out hb); clear hb) | (go_at_call 37; refine (HRD.out _).mono ?_; rintro x w3 ⟨rfl, hb⟩; have HB5 := Lib.hid (below_step HB4.out hb); clear hb))
      go_ret
      exact ⟨by rw [← HRR.out, ← hap]; rfl, HB5.out⟩
    · rw [if_neg hk1] at hR
      have q1 : (kd == 1) = false := by simpa using hk1
      by_cases hk3 : kd = 3
      · rw [if_pos hk3] at hR
        have HRR := Lib.hid hR
        have hap : (⟨sg.toArray⟩ : ByteArray) ++ ⟨#[105, 110, 102]⟩ = ⟨(sg ++ [105, 110, 102]).toArray⟩ := ba_app1 sg [105, 110, 102]
        subst hk3
        clear hR hkr hk0 HK q1 hk1
        go_wp2_with (first | (go_at_call 36; refine (HCA.out _).mono ?_; rintro x w2 ⟨rfl, hb⟩; have HB4 := Lib.hid (below_step HB3.out hb); clear hb) | (go_at_call 37; refine (HRD.out _).mono ?_; rintro x w3 ⟨rfl, hb⟩; have HB5 := Lib.hid (below_step HB4.out hb); clear hb))
        go_ret
        exact ⟨by rw [← HRR.out, ← hap]; rfl, HB5.out⟩
      · rw [if_neg hk3] at hR
        have q3 : (kd == 3) = false := by simpa using hk3
        by_cases hcn : (plainV 64 v : Int) = N
        · rw [if_pos hcn] at hR
          have HRR := Lib.hid hR
          have hap : (⟨sg.toArray⟩ : ByteArray) ++ ⟨#[110, 97, 110]⟩ = ⟨(sg ++ [110, 97, 110]).toArray⟩ := ba_app1 sg [110, 97, 110]
          have q4 : ((plainV 64 v : Int) == N) = true := by simpa using hcn
          clear hR hkr hk0 HK hk1 hk3 hcn
          go_wp2_with (first | (go_at_call 36; refine (HCA.out _).mono ?_; rintro x w2 ⟨rfl, hb⟩; have HB4 := Lib.hid (below_step HB3.out hb); clear hb) | (go_at_call 37; refine (HRD.out _).mono ?_; rintro x w3 ⟨rfl, hb⟩; have HB5 := Lib.hid (below_step HB4.out hb); clear hb))
          go_ret
          exact ⟨by rw [← HRR.out, ← hap]; rfl, HB5.out⟩
        · rw [if_neg hcn] at hR
          have q4 : ((plainV 64 v : Int) == N) = false := by simpa using hcn
          by_cases hk4 : kd = 4
          · rw [if_pos hk4] at hR
            have HRR := Lib.hid hR
            have q5 : (kd == 4) = true := by simpa using hk4
            obtain ⟨n, hn⟩ : ∃ n : Nat, IntKind.u64.wrap ((plainV 64 v : Int) - I) = (n : Int) := ⟨_, (Int.toNat_of_nonneg (by rw [IntKind.wrap_u64]; omega)).symm⟩
            have hnl : n < 18446744073709551616 := by rw [IntKind.wrap_u64] at hn; omega
            rw [hn, Int.toNat_natCast] at HRR
            have hhl := hexT_len 16 n (by simpa using hnl) (by omega)
            have HFU := Lib.hid (fun w hd => fu_c n hnl w hd)
            obtain ⟨X, hX⟩ : ∃ X, hexT n = X := ⟨_, rfl⟩
            rw [hX] at HFU HRR hhl
            have hXs : (⟨X.toArray⟩ : ByteArray).size = X.length := size_arr X
            have hap : (⟨sg.toArray⟩ : ByteArray) ++ ⟨#[110, 97, 110, 58, 48, 120]⟩ = ⟨(sg ++ [110, 97, 110, 58, 48, 120]).toArray⟩ := ba_app1 sg [110, 97, 110, 58, 48, 120]
            have hap2 : (⟨(sg ++ [110, 97, 110, 58, 48, 120]).toArray⟩ : ByteArray) ++ ⟨X.toArray⟩ = ⟨(sg ++ [110, 97, 110, 58, 48, 120] ++ X).toArray⟩ := ba_app1 _ _
            have hps : (⟨(sg ++ [110, 97, 110, 58, 48, 120]).toArray⟩ : ByteArray).size = sg.length + 6 := by rw [size_arr]; simp
            clear hR hkr hk0 HK hk1 hk3 hcn hk4 hX hnl
            go_wp2_with (first | (go_at_call 36; refine (HCA.out _).mono ?_; rintro x w2 ⟨rfl, hb⟩; have HB4 := Lib.hid (below_step HB3.out hb); clear hb) | (go_at_call 37; refine (HRD.out _).mono ?_; rintro x w3 ⟨rfl, hb⟩; have HB5 := Lib.hid (below_step HB4.out hb); clear hb) | (go_at_call 38; refine (HFU.out _ (HT.out.below HB5.out).db).mono ?_; rintro x w4 ⟨rfl, hb⟩; have HB6 := Lib.hid (below_step HB5.out hb); clear hb))
            go_ret
            have e : sg ++ 110 :: 97 :: 110 :: 58 :: 48 :: 120 :: X = R := by rw [← HRR.out]; simp
            exact ⟨by rw [← e]; rfl, HB6.out⟩
          · rw [if_neg hk4] at hR
            have q5 : (kd == 4) = false := by simpa using hk4
            have hk2 : kd = 2 := by omega
            obtain ⟨M, E, hM, hM0, hMl, hE1, hE2⟩ := HP2.out hk2
            have HPA := Lib.hid (fun w => parts_c 64 (plainV 64 v) hpl _ hM w)
            rw [hM] at hR
            simp only [Int.toNat_natCast] at hR
            obtain ⟨sr, hsr⟩ : ∃ sr, strip M E = sr := ⟨_, rfl⟩
            rw [hsr] at hR
            have HRR := Lib.hid hR
            have HSR := Lib.hid hsr
            clear hR hkr hk0 HK hk1 hk3 hcn hk4 hk2 hM hsr
            go_upto_block 2 with (first | (go_at_call 36; refine (HCA.out _).mono ?_; rintro x w2 ⟨rfl, hb⟩; have HB4 := Lib.hid (below_step HB3.out hb); clear hb) | (go_at_call 37; refine (HRD.out _).mono ?_; rintro x w3 ⟨rfl, hb⟩; have HB5 := Lib.hid (below_step HB4.out hb); clear hb) | (go_at_call 39; refine (HPA.out _).mono ?_; rintro x w4 ⟨rfl, hb⟩; have HB6 := Lib.hid (below_step HB5.out hb); clear hb))
            go_loopw [12, 13] (SfR w M E) (fun v12 _ _ => numV v12)
            case atStart =>
              exact ⟨M, 0, rfl, by simp, hM0, by simp, by simp, HB6.out⟩
            case round =>
              obtain ⟨m, j, rfl, rfl, hm0, hMm, hst, hb7⟩ := hrel.out
              clear hrel
              rename World => W
              have hj := pow_bound m j hm0 (by rw [← hMm]; exact hMl)
              have hml : m < 18446744073709551616 := by
                have : m * 1 ≤ m * 2 ^ j := Nat.mul_le_mul_left _ (Nat.one_le_two_pow)
                omega
              have HB7 := Lib.hid hb7
              have HMM := Lib.hid hMm
              have HST := Lib.hid hst
              clear hb7 hMm hst
              by_cases hev : m % 2 = 0
              · have hevI : ((m : Int) % 2 == 0) = true := by simp only [beq_iff_eq]; omega
                go_wp2
                go_roundw
                case rel =>
                  refine ⟨m / 2, j + 1, by push_cast; rfl, by push_cast; congr 1; omega, by omega, ?_, ?_, HB7.out⟩
                  · rw [HMM.out, Nat.pow_succ, Nat.mul_comm (2 ^ j), ← Nat.mul_assoc]
                    congr 1
                    omega
                  · rw [HST.out, strip_even m _ hev hm0]
                    congr 1
                    push_cast
                    omega
                case measure =>
                  simp only [numV]
                  omega
              · have hod : strip M E = (m, E + (j : Int)) := by rw [HST.out, strip_odd m _ (by omega)]
                have hsr := HSR.out
                rw [hod] at hsr
                have hR := HRR.out
                rw [← hsr] at hR
                simp only at hR
                have hhl := hexT_len 16 m (by simpa using hml) (by omega)
                have HFU := Lib.hid (fun w hd => fu_c m hml w hd)
                obtain ⟨e, he⟩ : ∃ e, E + (j : Int) = e := ⟨_, rfl⟩
                have her : -1074 ≤ e ∧ e ≤ 2200 := by omega
                rw [he] at hR
                have HIT := Lib.hid (fun w ht => it_c e (by omega) w ht)
                have hil := Lib.itoa_length_le e (by omega) (by omega)
                obtain ⟨X, hX⟩ : ∃ X, hexT m = X := ⟨_, rfl⟩
                rw [hX] at HFU hR hhl
                obtain ⟨Y, hY⟩ : ∃ Y, Lib.itoa e = Y := ⟨_, rfl⟩
                rw [hY] at HIT hR hil
                have HR := Lib.hid hR
                have hXs : (⟨X.toArray⟩ : ByteArray).size = X.length := size_arr X
                have hYs : (⟨Y.toArray⟩ : ByteArray).size = Y.length := size_arr Y
                have a1 : (⟨sg.toArray⟩ : ByteArray) ++ ⟨#[48, 120]⟩ = ⟨(sg ++ [48, 120]).toArray⟩ := ba_app1 sg [48, 120]
                have a2 : (⟨(sg ++ [48, 120]).toArray⟩ : ByteArray) ++ ⟨X.toArray⟩ = ⟨(sg ++ [48, 120] ++ X).toArray⟩ := ba_app1 _ _
                have a3 : (⟨(sg ++ [48, 120] ++ X).toArray⟩ : ByteArray) ++ ⟨#[112]⟩ = ⟨(sg ++ [48, 120] ++ X ++ [112]).toArray⟩ := ba_app1 _ _
                have a4 : (⟨(sg ++ [48, 120] ++ X ++ [112]).toArray⟩ : ByteArray) ++ ⟨Y.toArray⟩ = ⟨(sg ++ [48, 120] ++ X ++ [112] ++ Y).toArray⟩ := ba_app1 _ _
                have s1 : (⟨(sg ++ [48, 120]).toArray⟩ : ByteArray).size = sg.length + 2 := by rw [size_arr]; simp
                have s2 : (⟨(sg ++ [48, 120] ++ X).toArray⟩ : ByteArray).size = sg.length + 2 + X.length := by rw [size_arr]; simp; omega
                have s3 : (⟨(sg ++ [48, 120] ++ X ++ [112]).toArray⟩ : ByteArray).size = sg.length + 2 + X.length + 1 := by rw [size_arr]; simp; omega
                have hodI : ((m : Int) % 2 == 0) = false := by simp only [beq_eq_false_iff_ne, ne_eq]; omega
                clear hsr hod hX hY hml hM0 hMl hE1 hE2 hm0 hj hR HRR hev
                go_wp2_with (first | (go_at_call 38; refine (HFU.out _ (HT.out.below HB7.out).db).mono ?_; rintro x w5 ⟨rfl, hb⟩; have HB8 := Lib.hid (below_step HB7.out hb); clear hb) | (go_at_call 40; refine (HIT.out _ (HT.out.below HB8.out)).mono ?_; rintro x w6 ⟨rfl, hb⟩; have HB9 := Lib.hid (below_step HB8.out hb); clear hb))
                go_ret
                have e : sg ++ 48 :: 120 :: X ++ [112] ++ Y = R := by rw [← HR.out]; simp
                have z1 := ba_app1 (sg ++ 48 :: 120 :: X) [112]
                have z2 := ba_app1 (sg ++ 48 :: 120 :: X ++ [112]) Y
                rw [e] at z2
                exact ⟨congrArg (fun b => Ending.returned (.string b)) ((congrArg (· ++ (⟨Y.toArray⟩ : ByteArray)) z1).trans z2), HB9.out⟩
set_option maxRecDepth 1000000 in
set_option maxHeartbeats 4000000 in
theorem showFloat_32 (v : Nat) (hv : v < 18446744073709551616) (w : World) (ht : TW w) :
    Calls Tryz.prog 14 #[.int .i64 32, .int .u64 v] w fun e w' => e = .returned (.string ⟨(showF 32 v).toArray⟩) ∧ Below w.heap.size w w' := by
  have hkr := kind_rg 32 (.inl rfl) v
  obtain ⟨kd, hkd⟩ : ∃ kd, Fl.kindF 32 (v : Int) = kd := ⟨_, rfl⟩
  obtain ⟨R, hR⟩ : ∃ R, showF 32 v = R := ⟨_, rfl⟩
  have HK := Lib.hid (kind_c 32 v hv w)
  have HCA := Lib.hid (fun w => canon_c 32 (.inl rfl) w)
  obtain ⟨r, hr⟩ : ∃ r, Pure.roundF 32 false 1 4000 false = r := ⟨_, rfl⟩
  have HRD := Lib.hid (fun w => round_c 32 1 (by decide) _ _ r hr w)
  have hz1 : ((1 : Nat) : Int) = 1 := rfl
  rw [hz1] at HRD
  have hinf : infF 32 = r.1 := by unfold infF; rw [hr]
  obtain ⟨I, hI⟩ : ∃ I, infF 32 = I := ⟨_, rfl⟩
  have hI2 : r.1 = I := by rw [← hinf, hI]
  rw [hI2] at HRD
  obtain ⟨N, hN⟩ : ∃ N, Fl.canon 32 = N := ⟨_, rfl⟩
  rw [hN] at HCA
  rw [hR]
  unfold showF at hR
  rw [show (32 : Int).toNat = 32 from rfl] at hR
  rw [hkd] at hkr HK
  simp only [hkd, hN, hI] at hR
  have hs1 : bits .and .u64 ((v : Int) / 2147483648) 1 = ((v / 2 ^ 31 % 2 : Nat) : Int) := and_one (v / 2147483648) (by omega)
  have hp1 := and_31 v hv
  obtain ⟨sg, hsg⟩ : ∃ sg, signT 32 v = sg := ⟨_, rfl⟩
  rw [hsg] at hR
  have hsb : v / 2 ^ 31 % 2 = 0 ∨ v / 2 ^ 31 % 2 = 1 := by omega
  unfold signT at hsg
  rw [show 32 - 1 = 31 from rfl] at hsg
  generalize v / 2 ^ 31 % 2 = sb at *
  have HRR := Lib.hid hR
  have HT := Lib.hid ht
  have hk0 : (kd == 0) = false := by simp only [beq_eq_false_iff_ne, ne_eq]; omega
  have hpl : plainV 32 v < 18446744073709551616 := by
    have h1 := plain_lt 32 v
    have e : (2 : Nat) ^ (32 - 1) = 2147483648 := rfl
    rw [e] at h1; omega
  have HP2 := Lib.hid (fun h2 : kd = 2 => parts_two 32 (.inl rfl) v hv (hkd.trans h2))
  rw [show (32 : Int).toNat = 32 from rfl] at HP2
  clear hr hz1 hinf hI2 hR hkd hI hN ht
  go_enter Tryz.func14, Tryz.ntmps14
  go_upto_if 26 with (go_at_call 35; refine HK.out.mono ?_; rintro x w1 ⟨rfl, hb⟩; have HB := Lib.hid hb; clear hb)
  go_cut [6] (fun v6 wc => v6 = .string ⟨sg.toArray⟩ ∧ Below w.heap.size w wc)
  case first =>
    rcases hsb with rfl | rfl
    · rw [if_neg (by omega)] at hsg
      subst hsg
      go_wp2
      go_meet
      case rel => exact ⟨rfl, HB.out⟩
    · rw [if_pos rfl] at hsg
      subst hsg
      go_wp2
      go_meet
      case rel => exact ⟨rfl, HB.out⟩
  case rest =>
    obtain ⟨rfl, hb3⟩ := hcut
    have HB3 := Lib.hid hb3
    have hsl : sg.length ≤ 1 := by rw [← hsg]; split <;> simp
    have hsz : (⟨sg.toArray⟩ : ByteArray).size = sg.length := size_arr sg
    clear hb3 hsb hsg hs1
    have hR := HRR.out
    clear HRR
    rw [if_neg (by omega)] at hR
    by_cases hk1 : kd = 1
    · rw [if_pos hk1] at hR
      have HRR := Lib.hid hR
      have hap : (⟨sg.toArray⟩ : ByteArray) ++ ⟨#[48, 120, 48, 112, 48]⟩ = ⟨(sg ++ [48, 120, 48, 112, 48]).toArray⟩ := ba_app1 sg [48, 120, 48, 112, 48]
      subst hk1
      clear hR hkr hk0 HK
      go_wp2_with (first | (go_at_call 36; refine (HCA.out _).mono ?_; rintro x w2 ⟨rfl, hb⟩; have HB4 := Lib.hid (below_step HB3.out hb); clear hb) | (go_at_call 37; refine (HRD.out _).mono ?_; rintro x w3 ⟨rfl, hb⟩; have HB5 := Lib.hid (below_step HB4.out hb); clear hb))
      go_ret
      exact ⟨by rw [← HRR.out, ← hap]; rfl, HB5.out⟩
    · rw [if_neg hk1] at hR
      have q1 : (kd == 1) = false := by simpa using hk1
      by_cases hk3 : kd = 3
      · rw [if_pos hk3] at hR
        have HRR := Lib.hid hR
        have hap : (⟨sg.toArray⟩ : ByteArray) ++ ⟨#[105, 110, 102]⟩ = ⟨(sg ++ [105, 110, 102]).toArray⟩ := ba_app1 sg [105, 110, 102]
        subst hk3
        clear hR hkr hk0 HK q1 hk1
        go_wp2_with (first | (go_at_call 36; refine (HCA.out _).mono ?_; rintro x w2 ⟨rfl, hb⟩; have HB4 := Lib.hid (below_step HB3.out hb); clear hb) | (go_at_call 37; refine (HRD.out _).mono ?_; rintro x w3 ⟨rfl, hb⟩; have HB5 := Lib.hid (below_step HB4.out hb); clear hb))
        go_ret
        exact ⟨by rw [← HRR.out, ← hap]; rfl, HB5.out⟩
      · rw [if_neg hk3] at hR
        have q3 : (kd == 3) = false := by simpa using hk3
        by_cases hcn : (plainV 32 v : Int) = N
        · rw [if_pos hcn] at hR
          have HRR := Lib.hid hR
          have hap : (⟨sg.toArray⟩ : ByteArray) ++ ⟨#[110, 97, 110]⟩ = ⟨(sg ++ [110, 97, 110]).toArray⟩ := ba_app1 sg [110, 97, 110]
          have q4 : ((plainV 32 v : Int) == N) = true := by simpa using hcn
          clear hR hkr hk0 HK hk1 hk3 hcn
          go_wp2_with (first | (go_at_call 36; refine (HCA.out _).mono ?_; rintro x w2 ⟨rfl, hb⟩; have HB4 := Lib.hid (below_step HB3.out hb); clear hb) | (go_at_call 37; refine (HRD.out _).mono ?_; rintro x w3 ⟨rfl, hb⟩; have HB5 := Lib.hid (below_step HB4.out hb); clear hb))
          go_ret
          exact ⟨by rw [← HRR.out, ← hap]; rfl, HB5.out⟩
        · rw [if_neg hcn] at hR
          have q4 : ((plainV 32 v : Int) == N) = false := by simpa using hcn
          by_cases hk4 : kd = 4
          · rw [if_pos hk4] at hR
            have HRR := Lib.hid hR
            have q5 : (kd == 4) = true := by simpa using hk4
            obtain ⟨n, hn⟩ : ∃ n : Nat, IntKind.u64.wrap ((plainV 32 v : Int) - I) = (n : Int) := ⟨_, (Int.toNat_of_nonneg (by rw [IntKind.wrap_u64]; omega)).symm⟩
            have hnl : n < 18446744073709551616 := by rw [IntKind.wrap_u64] at hn; omega
            rw [hn, Int.toNat_natCast] at HRR
            have hhl := hexT_len 16 n (by simpa using hnl) (by omega)
            have HFU := Lib.hid (fun w hd => fu_c n hnl w hd)
            obtain ⟨X, hX⟩ : ∃ X, hexT n = X := ⟨_, rfl⟩
            rw [hX] at HFU HRR hhl
            have hXs : (⟨X.toArray⟩ : ByteArray).size = X.length := size_arr X
            have hap : (⟨sg.toArray⟩ : ByteArray) ++ ⟨#[110, 97, 110, 58, 48, 120]⟩ = ⟨(sg ++ [110, 97, 110, 58, 48, 120]).toArray⟩ := ba_app1 sg [110, 97, 110, 58, 48, 120]
            have hap2 : (⟨(sg ++ [110, 97, 110, 58, 48, 120]).toArray⟩ : ByteArray) ++ ⟨X.toArray⟩ = ⟨(sg ++ [110, 97, 110, 58, 48, 120] ++ X).toArray⟩ := ba_app1 _ _
            have hps : (⟨(sg ++ [110, 97, 110, 58, 48, 120]).toArray⟩ : ByteArray).size = sg.length + 6 := by rw [size_arr]; simp
            clear hR hkr hk0 HK hk1 hk3 hcn hk4 hX hnl
            go_wp2_with (first | (go_at_call 36; refine (HCA.out _).mono ?_; rintro x w2 ⟨rfl, hb⟩; have HB4 := Lib.hid (below_step HB3.out hb); clear hb) | (go_at_call 37; refine (HRD.out _).mono ?_; rintro x w3 ⟨rfl, hb⟩; have HB5 := Lib.hid (below_step HB4.out hb); clear hb) | (go_at_call 38; refine (HFU.out _ (HT.out.below HB5.out).db).mono ?_; rintro x w4 ⟨rfl, hb⟩; have HB6 := Lib.hid (below_step HB5.out hb); clear hb))
            go_ret
            have e : sg ++ 110 :: 97 :: 110 :: 58 :: 48 :: 120 :: X = R := by rw [← HRR.out]; simp
            exact ⟨by rw [← e]; rfl, HB6.out⟩
          · rw [if_neg hk4] at hR
            have q5 : (kd == 4) = false := by simpa using hk4
            have hk2 : kd = 2 := by omega
            obtain ⟨M, E, hM, hM0, hMl, hE1, hE2⟩ := HP2.out hk2
            have HPA := Lib.hid (fun w => parts_c 32 (plainV 32 v) hpl _ hM w)
            rw [hM] at hR
            simp only [Int.toNat_natCast] at hR
            obtain ⟨sr, hsr⟩ : ∃ sr, strip M E = sr := ⟨_, rfl⟩
            rw [hsr] at hR
            have HRR := Lib.hid hR
            have HSR := Lib.hid hsr
            clear hR hkr hk0 HK hk1 hk3 hcn hk4 hk2 hM hsr
            go_upto_block 2 with (first | (go_at_call 36; refine (HCA.out _).mono ?_; rintro x w2 ⟨rfl, hb⟩; have HB4 := Lib.hid (below_step HB3.out hb); clear hb) | (go_at_call 37; refine (HRD.out _).mono ?_; rintro x w3 ⟨rfl, hb⟩; have HB5 := Lib.hid (below_step HB4.out hb); clear hb) | (go_at_call 39; refine (HPA.out _).mono ?_; rintro x w4 ⟨rfl, hb⟩; have HB6 := Lib.hid (below_step HB5.out hb); clear hb))
            go_loopw [12, 13] (SfR w M E) (fun v12 _ _ => numV v12)
            case atStart =>
              exact ⟨M, 0, rfl, by simp, hM0, by simp, by simp, HB6.out⟩
            case round =>
              obtain ⟨m, j, rfl, rfl, hm0, hMm, hst, hb7⟩ := hrel.out
              clear hrel
              rename World => W
              have hj := pow_bound m j hm0 (by rw [← hMm]; exact hMl)
              have hml : m < 18446744073709551616 := by
                have : m * 1 ≤ m * 2 ^ j := Nat.mul_le_mul_left _ (Nat.one_le_two_pow)
                omega
              have HB7 := Lib.hid hb7
              have HMM := Lib.hid hMm
              have HST := Lib.hid hst
              clear hb7 hMm hst
              by_cases hev : m % 2 = 0
              · have hevI : ((m : Int) % 2 == 0) = true := by simp only [beq_iff_eq]; omega
                go_wp2
                go_roundw
                case rel =>
                  refine ⟨m / 2, j + 1, by push_cast; rfl, by push_cast; congr 1; omega, by omega, ?_, ?_, HB7.out⟩
                  · rw [HMM.out, Nat.pow_succ, Nat.mul_comm (2 ^ j), ← Nat.mul_assoc]
                    congr 1
                    omega
                  · rw [HST.out, strip_even m _ hev hm0]
                    congr 1
                    push_cast
                    omega
                case measure =>
                  simp only [numV]
                  omega
              · have hod : strip M E = (m, E + (j : Int)) := by rw [HST.out, strip_odd m _ (by omega)]
                have hsr := HSR.out
                rw [hod] at hsr
                have hR := HRR.out
                rw [← hsr] at hR
                simp only at hR
                have hhl := hexT_len 16 m (by simpa using hml) (by omega)
                have HFU := Lib.hid (fun w hd => fu_c m hml w hd)
                obtain ⟨e, he⟩ : ∃ e, E + (j : Int) = e := ⟨_, rfl⟩
                have her : -1074 ≤ e ∧ e ≤ 2200 := by omega
                rw [he] at hR
                have HIT := Lib.hid (fun w ht => it_c e (by omega) w ht)
                have hil := Lib.itoa_length_le e (by omega) (by omega)
                obtain ⟨X, hX⟩ : ∃ X, hexT m = X := ⟨_, rfl⟩
                rw [hX] at HFU hR hhl
                obtain ⟨Y, hY⟩ : ∃ Y, Lib.itoa e = Y := ⟨_, rfl⟩
                rw [hY] at HIT hR hil
                have HR := Lib.hid hR
                have hXs : (⟨X.toArray⟩ : ByteArray).size = X.length := size_arr X
                have hYs : (⟨Y.toArray⟩ : ByteArray).size = Y.length := size_arr Y
                have a1 : (⟨sg.toArray⟩ : ByteArray) ++ ⟨#[48, 120]⟩ = ⟨(sg ++ [48, 120]).toArray⟩ := ba_app1 sg [48, 120]
                have a2 : (⟨(sg ++ [48, 120]).toArray⟩ : ByteArray) ++ ⟨X.toArray⟩ = ⟨(sg ++ [48, 120] ++ X).toArray⟩ := ba_app1 _ _
                have a3 : (⟨(sg ++ [48, 120] ++ X).toArray⟩ : ByteArray) ++ ⟨#[112]⟩ = ⟨(sg ++ [48, 120] ++ X ++ [112]).toArray⟩ := ba_app1 _ _
                have a4 : (⟨(sg ++ [48, 120] ++ X ++ [112]).toArray⟩ : ByteArray) ++ ⟨Y.toArray⟩ = ⟨(sg ++ [48, 120] ++ X ++ [112] ++ Y).toArray⟩ := ba_app1 _ _
                have s1 : (⟨(sg ++ [48, 120]).toArray⟩ : ByteArray).size = sg.length + 2 := by rw [size_arr]; simp
                have s2 : (⟨(sg ++ [48, 120] ++ X).toArray⟩ : ByteArray).size = sg.length + 2 + X.length := by rw [size_arr]; simp; omega
                have s3 : (⟨(sg ++ [48, 120] ++ X ++ [112]).toArray⟩ : ByteArray).size = sg.length + 2 + X.length + 1 := by rw [size_arr]; simp; omega
                have hodI : ((m : Int) % 2 == 0) = false := by simp only [beq_eq_false_iff_ne, ne_eq]; omega
                clear hsr hod hX hY hml hM0 hMl hE1 hE2 hm0 hj hR HRR hev
                go_wp2_with (first | (go_at_call 38; refine (HFU.out _ (HT.out.below HB7.out).db).mono ?_; rintro x w5 ⟨rfl, hb⟩; have HB8 := Lib.hid (below_step HB7.out hb); clear hb) | (go_at_call 40; refine (HIT.out _ (HT.out.below HB8.out)).mono ?_; rintro x w6 ⟨rfl, hb⟩; have HB9 := Lib.hid (below_step HB8.out hb); clear hb))
                go_ret
                have e : sg ++ 48 :: 120 :: X ++ [112] ++ Y = R := by rw [← HR.out]; simp
                have z1 := ba_app1 (sg ++ 48 :: 120 :: X) [112]
                have z2 := ba_app1 (sg ++ 48 :: 120 :: X ++ [112]) Y
                rw [e] at z2
                exact ⟨congrArg (fun b => Ending.returned (.string b)) ((congrArg (· ++ (⟨Y.toArray⟩ : ByteArray)) z1).trans z2), HB9.out⟩
theorem showFloat_c (bits : Int) (v : Nat) (hv : v < 18446744073709551616) (w : World) (ht : TW w) :
    Calls Tryz.prog 14 #[.int .i64 bits, .int .u64 v] w fun e w' => e = .returned (.string ⟨(showF bits v).toArray⟩) ∧ Below w.heap.size w w' := by
  by_cases hb : bits = 32 ∨ bits = 64
  · rcases hb with rfl | rfl
    · exact showFloat_32 v hv w ht
    · exact showFloat_64 v hv w ht
  · exact showFloat_none bits hb v hv w
end Go.Proofs.YtjecdciabpjgcaaGreatDoor.Lz
namespace Go.Proofs.YtjecdciabpjgcaaGreatDoor.Lz
set_option linter.unusedVariables false
set_option linter.unusedSimpArgs false
open Go.RowKit Go.Proofs.YtjecdciabpjgcaaGreatDoorW.PrintWords Go.Proofs.YtjecdciabpjgcaaGreatDoor.Lx Go.Proofs.YtjecdciabpjgcaaGreatDoor.PLz
theorem strip_pow (m : Nat) (hm : m % 2 = 1) : ∀ (j : Nat) (e : Int), strip (m * 2 ^ j) e = (m, e + (j : Int))
  | 0, e => by rw [Nat.pow_zero, Nat.mul_one, strip_odd m e hm]; simp
  | j + 1, e => by
    have hp : 0 < m * 2 ^ j := Nat.mul_pos (by omega) (Nat.two_pow_pos j)
    have e1 : m * 2 ^ (j + 1) = 2 * (m * 2 ^ j) := by rw [Nat.pow_succ, ← Nat.mul_assoc, Nat.mul_comm]
    rw [e1, strip_even _ e (by omega) (by omega), Nat.mul_div_cancel_left _ (by decide), strip_pow m hm j]
    congr 1
    omega
theorem ex_int1 : intF 8 [45, 49, 50, 56] = (128, true) := by decide +kernel
theorem ex_int2 : intF 8 [48, 120, 102, 102] = (255, true) := by decide +kernel
theorem ex_int3 : intF 8 [50, 53, 54] = (0, false) := by decide +kernel
theorem ex_float1 : floatF 32 [48, 120, 49, 46, 56, 112, 49] = (1077936128, true) := by decide +kernel
theorem ex_float2 : floatF 32 [49, 101, 51, 57] = (0, false) := by decide +kernel
theorem ex_show1 : showI 8 128 = [45, 49, 50, 56] := by
  have h1 : rightB 8 := by unfold rightB; omega
  have h2 : sgnB (8 : Int).toNat 128 = -128 := by decide
  unfold showI
  rw [if_pos h1, h2]
  unfold Lib.itoa
  rw [if_pos (by decide)]
  have e : (-128 : Int).natAbs = 128 := rfl
  rw [e, Lib.decDigits, dif_neg (by decide), Lib.decDigits, dif_neg (by decide), Lib.decDigits, dif_pos (by decide)]
  rfl
theorem ex_show2 : showF 64 4609434218613702656 = [48, 120, 51, 112, 45, 49] := by
  have hk : Fl.kindF 64 ((4609434218613702656 : Nat) : Int) = 2 := by decide +kernel
  have hs : signT (64 : Int).toNat 4609434218613702656 = [] := by decide +kernel
  have hp : plainV (64 : Int).toNat 4609434218613702656 = 4609434218613702656 := by decide +kernel
  have hq : Pure.partsF 64 4609434218613702656 = (false, ((3 * 2 ^ 51 : Nat) : Int), -52, 0) := by decide +kernel
  have hc : ¬ ((4609434218613702656 : Nat) : Int) = Fl.canon 64 := by decide
  unfold showF
  simp only [hk, hs, hp, hq]
  rw [if_neg (by decide), if_neg (by decide), if_neg (by decide), if_neg hc, if_neg (by decide), Int.toNat_natCast, strip_pow 3 (by decide) 51]
  simp only [List.nil_append]
  rw [hexT_lt 3 (by decide), show (-52 : Int) + ((51 : Nat) : Int) = -1 by omega]
  unfold Lib.itoa
  rw [if_pos (by decide), show (-1 : Int).natAbs = 1 from rfl, Lib.decDigits, dif_pos (by decide)]
  rfl
end Go.Proofs.YtjecdciabpjgcaaGreatDoor.Lz
namespace Go.Proofs.YtjecdciabpjgcaaGreatDoor.Lz
set_option linter.unusedVariables false
set_option linter.unusedSimpArgs false
open Go.RowKit Go.Proofs.YtjecdciabpjgcaaGreatDoorW.PrintWords Go.Proofs.YtjecdciabpjgcaaGreatDoor.Lx Go.Proofs.YtjecdciabpjgcaaGreatDoor.PLz
theorem int_at (bits : Int) (l : List UInt8) (hl : l.length ≤ 1000000) (r : Nat × Bool) (h : intF bits l = r) (w : World) (hm : ML w) :
    Calls Tryz.prog 10 #[.int .i64 bits, .string ⟨l.toArray⟩] w fun e w' => e = .returned (.tuple #[.int .u64 (r.1 : Int), .bool r.2]) ∧ Below w.heap.size w w' :=
  (int_c ⟨l.toArray⟩ bits (by rw [size_arr]; omega) w hm r (by rw [arr_self]; exact h)).mono fun e w' hq => hq.out
theorem float_at (bits : Int) (l : List UInt8) (hl : l.length ≤ 900000) (r : Int × Bool) (h : floatF bits l = r) (w : World) (hm : ML w) :
    Calls Tryz.prog 12 #[.int .i64 bits, .string ⟨l.toArray⟩] w fun e w' => e = .returned (.tuple #[.int .u64 r.1, .bool r.2]) ∧ Below w.heap.size w w' :=
  (float_c bits ⟨l.toArray⟩ (by rw [size_arr]; omega) w hm).mono fun e w' hq => by
    have := hq.out
    rw [arr_self, h] at this
    exact this
structure AwQ (w : World) (e : Ending) (w' : World) : Prop where mk ::
  (out : e = .returned (.bool true) ∧ Below w.heap.size w w')
set_option maxRecDepth 1000000 in
set_option maxHeartbeats 4000000 in
theorem awake_c (w : World) (ht : TW w) : Calls Tryz.prog 9 #[] w (AwQ w) := by
  have HT := Lib.hid ht
  have H1 := Lib.hid (fun w hm => int_at 8 _ (by decide) _ ex_int1 w hm)
  have H2 := Lib.hid (fun w hm => int_at 8 _ (by decide) _ ex_int2 w hm)
  have H3 := Lib.hid (fun w hm => int_at 8 _ (by decide) _ ex_int3 w hm)
  have H4 := Lib.hid (fun w hm => float_at 32 _ (by decide) _ ex_float1 w hm)
  have H5 := Lib.hid (fun w hm => float_at 32 _ (by decide) _ ex_float2 w hm)
  have H6 := Lib.hid (fun w ht => showInt_c 8 (by decide) 128 w ht)
  have H7 := Lib.hid (fun w ht => showFloat_c 64 4609434218613702656 (by decide) w ht)
  rw [ex_show1] at H6
  rw [ex_show2] at H7
  clear ht
  go_enter Tryz.func9, Tryz.ntmps9
  go_wp2_with (first | (go_at_call 10; ((with_reducible refine (H1.out _ HT.out.ml).mono ?_)); rintro e w1 ⟨rfl, hb⟩; have HB1 := Lib.hid hb; clear hb) | (go_at_call 10; ((with_reducible refine (H2.out _ (HT.out.ml.below HB1.out)).mono ?_)); rintro e w2 ⟨rfl, hb⟩; have HB2 := Lib.hid (below_step HB1.out hb); clear hb) | (go_at_call 10; ((with_reducible refine (H3.out _ (HT.out.ml.below HB2.out)).mono ?_)); rintro e w3 ⟨rfl, hb⟩; have HB3 := Lib.hid (below_step HB2.out hb); clear hb) | (go_at_call 12; ((with_reducible refine (H4.out _ (HT.out.ml.below HB3.out)).mono ?_)); rintro e w4 ⟨rfl, hb⟩; have HB4 := Lib.hid (below_step HB3.out hb); clear hb) | (go_at_call 12; ((with_reducible refine (H5.out _ (HT.out.ml.below HB4.out)).mono ?_)); rintro e w5 ⟨rfl, hb⟩; have HB5 := Lib.hid (below_step HB4.out hb); clear hb) | (go_at_call 13; refine (H6.out _ (HT.out.below HB5.out)).mono ?_; rintro e w6 ⟨rfl, hb⟩; have HB6 := Lib.hid (below_step HB5.out hb); clear hb) | (go_at_call 14; refine (H7.out _ (HT.out.below HB6.out)).mono ?_; rintro e w7 ⟨rfl, hb⟩; have HB7 := Lib.hid (below_step HB6.out hb); clear hb))
  go_ret
  exact ⟨rfl, HB7.out⟩
end Go.Proofs.YtjecdciabpjgcaaGreatDoor.Lz
