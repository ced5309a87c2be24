/-
  The walk of the law ConvWords. No condition but that a word is one.
-/
import Derived.Test.YtonofklhapfdpaaCd
namespace Go.Proofs.Ytonofklhapfdpaa.Pure
set_option linter.unusedVariables false
set_option linter.unusedSimpArgs false
open Go.ChangeShapes Go.WideShapes Go.RowKit Go.Proofs.Ytonofklhapfdpaa.PConv Go.Proofs.Ytonofklhapfdpaa.Fl Go.Proofs.Ytonofklhapfdpaa.Ref Go.Proofs.YtonofklhapfdpaaW.PrintWords Go.Proofs.YtonofklhapfdpaaW.PrintLast

theorem awake_c (w : World) : Calls Try.prog 9 #[] w fun e w' => e = .returned (.bool true) ∧ Below w.heap.size w w' := bodkinlaw04_awake.calls 100 true w awake_ok
theorem progConv (fr dst : Int) (hf : Rt fr) (ht : Rt dst) (signed : Bool) (a : Nat) (ha : a < 18446744073709551616) (w : World) :
    Calls Try.prog 16 #[.int .i64 fr, .int .i64 dst, .bool signed, .int .u64 (a : Int)] w fun e w' => e = .returned (.tuple #[.int .u64 (convF fr dst signed a : Nat), .int .i64 0]) ∧ Below w.heap.size w w' :=
  conv_Convert.calls 6 fr dst signed (a : Int) _ 0 w (c_Convert fr dst hf ht signed a ha 6 (Nat.le_refl _))
def Two6 (v : Value) : Prop := (∃ n : Int, Rt n ∧ v = .int .i64 n) ∨ v = .int .i64 96
theorem two_next {n : Int} (h : Rt n) : Two6 (.int .i64 (n + 32)) := by
  rcases h with rfl | rfl
  · exact .inl ⟨64, .inr rfl, rfl⟩
  · exact .inr rfl
theorem rt_bd {n : Int} (h : Rt n) : 32 ≤ n ∧ n ≤ 64 := by rcases h with rfl | rfl <;> omega
def WordR (w0 : World) (v : Value) (wr : World) : Prop := Two6 v ∧ Below w0.heap.size w0 wr
set_option maxHeartbeats 1000000 in
set_option maxRecDepth 100000 in
theorem words_law (a : Nat) (ha : a < 18446744073709551616) (w : World) :
    Calls Try.prog 5 #[.int .u64 (a : Int)] w fun e w' => e = .returned (.bool true) ∧ Below w.heap.size w w' := by
  have HA := Lib.hid ha
  clear ha
  go_enter Try.func5, Try.ntmps5
  go_wp2_with (go_at_call 9; refine (awake_c _).mono ?_; rintro e w1 ⟨rfl, hb⟩; have HB := Lib.hid hb; clear hb)
  go_loopw [4] (WordR w) (fun i _ => (96 - intOf i).toNat)
  case atStart => exact ⟨.inl ⟨32, .inl rfl, rfl⟩, HB.out⟩
  case round =>
    obtain ⟨h4, hb⟩ := hrel
    have HBR := Lib.hid hb
    clear hb
    rcases h4 with ⟨n, hn, rfl⟩ | rfl
    · have hbd := rt_bd hn
      have HN := Lib.hid hn
      clear hn
      go_upto_region 7 with fail
      go_wp2
      go_loopw [5] (WordR w) (fun i _ => (96 - intOf i).toNat)
      case atStart => exact ⟨.inl ⟨32, .inl rfl, rfl⟩, HBR.out⟩
      case round =>
        rename_i wr2
        obtain ⟨h5, hb⟩ := hrel
        have HBS := Lib.hid hb
        clear hb
        rcases h5 with ⟨m, hm, rfl⟩ | rfl
        · have hbm := rt_bd hm
          have HM := Lib.hid hm
          clear hm
          obtain ⟨x, hx⟩ : ∃ x, x = convF n m false a := ⟨_, rfl⟩
          obtain ⟨y, hy⟩ : ∃ y, y = convF n m true a := ⟨_, rfl⟩
          have hp := fun w => progConv n m HN.out HM.out false a HA.out w
          have hq := fun w => progConv n m HN.out HM.out true a HA.out w
          have hr := fun w => refConv n m HN.out HM.out false a HA.out w
          have hs := fun w => refConv n m HN.out HM.out true a HA.out w
          rw [← hx] at hp hr
          rw [← hy] at hq hs
          have HP := Lib.hid hp
          have HQ := Lib.hid hq
          have HR := Lib.hid hr
          have HS := Lib.hid hs
          clear hp hq hr hs hx hy
          go_wp2_with (first | (go_at_call 16; ((with_reducible refine (HP.out _).mono ?_)); rintro e w3 ⟨rfl, hb⟩; have HB3 := Lib.hid hb; clear hb) | (go_at_call 16; ((with_reducible refine (HQ.out _).mono ?_)); rintro e w4 ⟨rfl, hb⟩; have HB4 := Lib.hid hb; clear hb) | (go_at_call 17; ((with_reducible refine (HR.out _).mono ?_)); rintro e w5 ⟨rfl, rfl⟩) | (go_at_call 17; ((with_reducible refine (HS.out _).mono ?_)); rintro e w6 ⟨rfl, rfl⟩))
          go_roundw
          case rel => exact ⟨two_next HM.out, HBS.out.trans ((HB3.out.trans (HB4.out.mono HB3.out.size)).mono HBS.out.size)⟩
          case measure => simp [intOf]; omega
        · go_wp2
          go_roundw
          case rel => exact ⟨two_next HN.out, HBS.out⟩
          case measure => simp [intOf]; omega
    · go_wp2
      go_ret
      exact ⟨rfl, HBR.out⟩
theorem words_walk (a0 : Int) (w : World) (w0 : (Lit.int .u64 a0).wf = true) : Calls Try.prog 5 #[.int .u64 a0] w fun e w' => e = .returned (.bool true) ∧ Below w.heap.size w w' := by
  have q := bounds_u64 w0
  obtain ⟨a, rfl⟩ := Int.eq_ofNat_of_zero_le q.1
  exact words_law a (by omega) w
end Go.Proofs.Ytonofklhapfdpaa.Pure
