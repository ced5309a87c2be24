/-
  The contract of math/bits.Len64, which the kit's print does not take, in the words of the kit's Lib.bitLen.
-/
import Derived.Test.YtonofklhapfdpaaProg
import Derived.Test.YtonofklhapfdpaaWWords
import Derived.WalkKit
import Derived.KernelRfl
import Derived.Lib.BitFns
namespace Go.Proofs.Ytonofklhapfdpaa.PConv
open Go.RowKit Go.Proofs.YtonofklhapfdpaaW.PrintWords

theorem tab_size : Lib.len8tab.size = 256 := by decide +kernel
theorem tab_fin : ∀ n : Fin 256, (Lib.len8tab[n.val]'(by rw [tab_size]; exact n.isLt)).toNat = Lib.bitLen n.val := by decide +kernel
theorem tab_at (i : Nat) (h : i < Lib.len8tab.size) : (Lib.len8tab[i]'h).toNat = Lib.bitLen i := tab_fin ⟨i, by rw [tab_size] at h; exact h⟩
theorem small (i : Nat) (h : i < 256) : Lib.bitLen i ≤ 8 := Lib.bitLen_le i 8 (by decide) h

theorem close (x : Int) (q : Nat) (k : Int) (h : q < Lib.len8tab.size) (hq : q < 256) (e : (Lib.bitLen x.toNat : Int) = k + (Lib.bitLen q : Int)) (hk : 0 ≤ k ∧ k ≤ 56) :
    wrap64 (k + wrap64 ((Lib.len8tab[q]'h).toNat : Int)) = (Lib.bitLen x.toNat : Int) := by
  rw [tab_at, e]
  have := small q hq
  unfold wrap64
  omega

set_option maxHeartbeats 400000 in
set_option maxRecDepth 100000 in
theorem bits_Len64.any (x : Int) (w : World) (h0 : 0 ≤ x) (h1 : x ≤ 18446744073709551615) :
    Calls Try.prog 24 #[.int .u64 x] w fun e w' => e = .returned (.int .i64 (Lib.bitLen x.toNat)) ∧ w' = w := by
  have hT : (256 : Int) ≤ (Lib.len8tab.size : Int) := by rw [tab_size]; decide
  go_enter Try.func24, Try.ntmps24
  go_wp2
  all_goals (go_ret; refine ⟨congrArg Ending.returned (congrArg (Value.int IntKind.i64) ?_), rfl⟩)
  · exact close x _ 56 _ (by omega) (by
      have s := Lib.bitLen_shift56 x.toNat (by omega) (by omega)
      rw [s, show (x / 4294967296 / 65536 / 256).toNat = x.toNat / 72057594037927936 from by omega]
      rfl) (by omega)
  · exact close x _ 48 _ (by omega) (by
      have s := Lib.bitLen_shift48 x.toNat (by omega) (by omega)
      rw [s, show (x / 4294967296 / 65536).toNat = x.toNat / 281474976710656 from by omega]
      rfl) (by omega)
  · exact close x _ 40 _ (by omega) (by
      have s := Lib.bitLen_shift40 x.toNat (by omega) (by omega)
      rw [s, show (x / 4294967296 / 256).toNat = x.toNat / 1099511627776 from by omega]
      rfl) (by omega)
  · exact close x _ 32 _ (by omega) (by
      have s := Lib.bitLen_shift32 x.toNat (by omega) (by omega)
      rw [s, show (x / 4294967296).toNat = x.toNat / 4294967296 from by omega]
      rfl) (by omega)
  · exact close x _ 24 _ (by omega) (by
      have s := Lib.bitLen_shift24 x.toNat (by omega) (by omega)
      rw [s, show (x / 65536 / 256).toNat = x.toNat / 16777216 from by omega]
      rfl) (by omega)
  · exact close x _ 16 _ (by omega) (by
      have s := Lib.bitLen_shift16 x.toNat (by omega) (by omega)
      rw [s, show (x / 65536).toNat = x.toNat / 65536 from by omega]
      rfl) (by omega)
  · exact close x _ 8 _ (by omega) (by
      have s := Lib.bitLen_shift8 x.toNat (by omega) (by omega)
      rw [s, show (x / 256).toNat = x.toNat / 256 from by omega]
      rfl) (by omega)
  · have c := close x x.toNat 0 (by omega) (by omega) (by omega) (by omega)
    rw [Int.zero_add] at c
    rw [← c]

def bits_Len64.f (a0 : Int) : Option Int := if 0 ≤ a0 ∧ a0 ≤ 18446744073709551615 then some (Lib.bitLen a0.toNat) else none
theorem bits_Len64.calls (a0 : Int) (r : Int) (w : World) (h : bits_Len64.f a0 = some r) :
    Calls Try.prog 24 #[.int .u64 a0] w fun e w' => e = .returned (.int .i64 r) ∧ Drawn0 w w' := by
  unfold bits_Len64.f at h
  split at h
  · rename_i hb
    obtain rfl := Option.some.inj h
    refine (bits_Len64.any a0 w hb.1 hb.2).mono fun e w' he => ⟨he.1, ?_⟩
    rw [he.2]
    exact Drawn0.refl w
  · cases h

end Go.Proofs.Ytonofklhapfdpaa.PConv
