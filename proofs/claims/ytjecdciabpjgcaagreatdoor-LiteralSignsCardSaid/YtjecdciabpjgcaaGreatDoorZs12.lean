/-
  The walk of the law LiteralSigns, for any arguments. Condition: the library's variable internal/bytealg.MaxLen holds a number, and strconv's and math/bits' tables are as their initialisers lay them.
-/
import Derived.Test.YtjecdciabpjgcaaGreatDoorZs0
import Derived.Test.YtjecdciabpjgcaaGreatDoorZs1
import Derived.Test.YtjecdciabpjgcaaGreatDoorZs2
import Derived.Test.YtjecdciabpjgcaaGreatDoorZs3
import Derived.Test.YtjecdciabpjgcaaGreatDoorZs4
import Derived.Test.YtjecdciabpjgcaaGreatDoorZs5
import Derived.Test.YtjecdciabpjgcaaGreatDoorZs6
import Derived.Test.YtjecdciabpjgcaaGreatDoorZs7
import Derived.Test.YtjecdciabpjgcaaGreatDoorZs8
import Derived.Test.YtjecdciabpjgcaaGreatDoorZs9
import Derived.Test.YtjecdciabpjgcaaGreatDoorZs10
import Derived.Test.YtjecdciabpjgcaaGreatDoorZs11
namespace Go.Proofs.YtjecdciabpjgcaaGreatDoor.Lz
set_option linter.unusedVariables false
set_option linter.unusedSimpArgs false
open Go.RowKit Go.Proofs.YtjecdciabpjgcaaGreatDoorW.PrintWords Go.Proofs.YtjecdciabpjgcaaGreatDoor.Lx Go.Proofs.YtjecdciabpjgcaaGreatDoor.PLz
set_option maxRecDepth 1000000 in
set_option maxHeartbeats 4000000 in
theorem signs_row (bits : Int) (s : ByteArray) (at_ : Int) (w : World) (hb : (Lit.int .i64 bits).wf = true) (hs : s.size ≤ 140737488351232) (hat : (Lit.int .i64 at_).wf = true) (ht : TW w) :
    Calls Tryz.prog 4 #[.int .i64 bits, .string s, .int .i64 at_] w fun e w' => e = .returned (.bool true) ∧ Below w.heap.size w w' := by
  have hbb := bounds_i64 hb
  by_cases h1 : 300 < s.size
  · have h1I : 300 < (s.size : Int) := by omega
    have HT := Lib.hid ht
    clear ht hb h1 hs hat hbb
    go_enter Tryz.func4, Tryz.ntmps4
    go_wp2_with (go_at_call 9; refine (awake_c _ HT.out).mono ?_; intro e w0 hq; obtain ⟨he, hb⟩ := hq.out; subst he; have HB0 := Lib.hid hb; clear hb hq)
    go_ret
    exact ⟨rfl, HB0.out⟩
  · rcases Nat.eq_zero_or_pos s.size with h0 | h0
    · have h0I : (s.size : Int) = 0 := by omega
      have HT := Lib.hid ht
      clear ht hb h1 hs hat hbb
      go_enter Tryz.func4, Tryz.ntmps4
      go_wp2_with (go_at_call 9; refine (awake_c _ HT.out).mono ?_; intro e w0 hq; obtain ⟨he, hb⟩ := hq.out; subst he; have HB0 := Lib.hid hb; clear hb hq)
      go_ret
      exact ⟨rfl, HB0.out⟩
    · have n1 : (s.size : Int) ≤ 300 := by omega
      have n2 : ((s.size : Int) == 0) = false := by simp only [beq_eq_false_iff_ne, ne_eq]; omega
      have n3 : (0 : Int) < (s.size : Int) := by omega
      by_cases h43 : s[0] = 43
      · have q43 := byteT_eq s[0] 43 h43
        rw [show (((43 : UInt8).toNat : Nat) : Int) = 43 from rfl] at q43
        have HT := Lib.hid ht
        clear ht hb h1 hs hat hbb h43
        go_enter Tryz.func4, Tryz.ntmps4
        go_wp2_with (go_at_call 9; refine (awake_c _ HT.out).mono ?_; intro e w0 hq; obtain ⟨he, hb⟩ := hq.out; subst he; have HB0 := Lib.hid hb; clear hb hq)
        go_ret
        exact ⟨rfl, HB0.out⟩
      · have q43 := byteT_ne s[0] 43 h43
        rw [show (((43 : UInt8).toNat : Nat) : Int) = 43 from rfl] at q43
        by_cases h45 : s[0] = 45
        · have q45 := byteT_eq s[0] 45 h45
          rw [show (((45 : UInt8).toNat : Nat) : Int) = 45 from rfl] at q45
          have HT := Lib.hid ht
          clear ht hb h1 hs hat hbb h43 h45
          go_enter Tryz.func4, Tryz.ntmps4
          go_wp2_with (go_at_call 9; refine (awake_c _ HT.out).mono ?_; intro e w0 hq; obtain ⟨he, hb⟩ := hq.out; subst he; have HB0 := Lib.hid hb; clear hb hq)
          go_ret
          exact ⟨rfl, HB0.out⟩
        · obtain ⟨k, hk, hk2⟩ := and1023 at_
          rcases Nat.eq_zero_or_pos k with rfl | hk0
          · exact signs_k0 bits hbb s at_ w ht h0 (by omega) h43 h45 hk
          · obtain ⟨n, rfl⟩ : ∃ n, k = n + 1 := ⟨k - 1, by omega⟩
            have hk' : Go.bits .and .i64 at_ 1023 = (n : Int) + 1 := by rw [hk]; push_cast; rfl
            by_cases hn : s.size ≤ n + 1
            · exact signs_k1 bits hbb s at_ w ht h0 (by omega) h43 h45 n hk' hn
            · by_cases c1 : s[n].toNat < 48
              · exact signs_k2 bits hbb s at_ w ht h0 (by omega) h43 h45 n hk' (by omega) c1
              · by_cases c2 : 57 < s[n].toNat
                · exact signs_k3 bits hbb s at_ w ht h0 (by omega) h43 h45 n hk' (by omega) c2
                · by_cases c3 : s[n + 1].toNat < 48
                  · exact signs_k4 bits hbb s at_ w ht h0 (by omega) h43 h45 n hk' (by omega) (by omega) (by omega) c3
                  · by_cases c4 : 57 < s[n + 1].toNat
                    · exact signs_k5 bits hbb s at_ w ht h0 (by omega) h43 h45 n hk' (by omega) (by omega) (by omega) c4
                    · exact signs_k6 bits hbb s at_ w ht h0 (by omega) h43 h45 n hk' (by omega) (by omega) (by omega) (by omega) (by omega)
end Go.Proofs.YtjecdciabpjgcaaGreatDoor.Lz
