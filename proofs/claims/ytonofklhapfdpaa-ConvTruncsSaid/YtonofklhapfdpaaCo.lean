/-
  The reference's Trunc at sizes that are none; the law's walk over contracts.
-/
import Derived.Test.YtonofklhapfdpaaCk
import Derived.Test.YtonofklhapfdpaaCh
namespace Go.Proofs.Ytonofklhapfdpaa.Pure
set_option linter.unusedVariables false
set_option linter.unusedSimpArgs false
open Go.RowKit Go.Proofs.Ytonofklhapfdpaa.PConv Go.Proofs.Ytonofklhapfdpaa.Fl Go.Proofs.Ytonofklhapfdpaa.Ref Go.Proofs.YtonofklhapfdpaaW.PrintWords Go.Proofs.YtonofklhapfdpaaW.PrintLast

theorem tr_wrong (fr t : Int) (h : ¬ (Rt fr ∧ Rt t)) (s b : Bool) (a : Int) (w : World) :
    Calls Try.prog 20 #[.int .i64 fr, .int .i64 t, .bool s, .bool b, .int .u64 a] w (TrQ (0, 1) w) := by
  by_cases hf : Rt fr
  · have ht : ¬ Rt t := fun x => h ⟨hf, x⟩
    have t1 : (t != 32) = true := bne_iff_ne.2 (fun x => ht (.inl x))
    have t2 : (t != 64) = true := bne_iff_ne.2 (fun x => ht (.inr x))
    clear h ht
    rcases hf with rfl | rfl
    all_goals
      go_enter Try.func20, Try.ntmps20
      go_wp2
      go_ret2
      exact ⟨rfl, drawn_n (k := 0) rfl⟩
  · have t1 : (fr != 32) = true := bne_iff_ne.2 (fun x => hf (.inl x))
    have t2 : (fr != 64) = true := bne_iff_ne.2 (fun x => hf (.inr x))
    clear h hf
    go_enter Try.func20, Try.ntmps20
    go_wp2
    go_ret2
    exact ⟨rfl, drawn_n (k := 0) rfl⟩

theorem truncs_law (fr t : Int) (s b : Bool) (a r1 r2 : Int) (HP : ∀ w, Calls Try.prog 10 #[.int .i64 fr, .int .i64 t, .bool s, .bool b, .int .u64 a] w fun e w' => e = .returned (.tuple #[.int .u64 r1, .int .i64 r2]) ∧ Below w.heap.size w w')
    (HR : ∀ w, Calls Try.prog 20 #[.int .i64 fr, .int .i64 t, .bool s, .bool b, .int .u64 a] w (TrQ (r1, r2) w)) (w : World) :
    Calls Try.prog 8 #[.int .i64 fr, .int .i64 t, .bool s, .bool b, .int .u64 a] w fun e w' => e = .returned (.bool true) ∧ Below w.heap.size w w' := by
  go_enter Try.func8, Try.ntmps8
  go_wp2_with (first | (go_at_call 9; refine (awake_c _).mono ?_; rintro e w1 ⟨rfl, hb⟩; have HB1 := Lib.hid hb; clear hb) | (go_at_call 10; refine (HP _).mono ?_; rintro e w2 ⟨rfl, hb⟩; have HB2 := Lib.hid (HB1.out.trans (hb.mono HB1.out.size)); clear hb) | (go_at_call 20; refine (HR _).mono ?_; rintro e w3 ⟨rfl, hd⟩; have HB3 := Lib.hid (HB2.out.trans (hd.below.mono HB2.out.size)); clear hd))
  go_ret
  exact ⟨by simp, HB3.out⟩
end Go.Proofs.Ytonofklhapfdpaa.Pure
