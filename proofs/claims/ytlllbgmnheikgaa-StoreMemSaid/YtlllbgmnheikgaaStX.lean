/-
  The law StoreMem, as its row wants it. No condition but those of what came in.
-/
import Derived.Test.YtlllbgmnheikgaaStU
import Derived.Test.YtlllbgmnheikgaaStW
namespace Go.Proofs.Ytlllbgmnheikgaa.St
set_option linter.unusedVariables false
set_option linter.unusedSimpArgs false
open Go.ChangeShapes Go.WideShapes Go.RowKit Go.Proofs.YtlllbgmnheikgaaW.PrintWords Go.Proofs.Ytlllbgmnheikgaa.PStoreNone

set_option maxHeartbeats 1000000 in
set_option maxRecDepth 1000000 in
theorem mem_far (pg mn mx : Int) (hs : Bool) (S : Option Addr) (ns cs : Nat) (most : Int) (w : World) (h : pg < 0 ∨ 2 < pg) :
    Calls Try.prog 4 #[.int .i64 pg, .agg #[.int .i64 mn, .int .i64 mx, .bool hs], .slice S ns cs, .int .i64 most] w fun e w' => e = .returned (.bool true) ∧ Below w.heap.size w w' := by
  have hba : Below w.heap.size w (w.alloc (Obj.cells #[.int .i64 mn, .int .i64 mx, .bool hs] 23)) := (Below.refl _ _).alloc (Nat.le_refl _) _
  have HBA := Lib.hid hba
  clear hba
  rcases h with h | h
  all_goals
    go_enter Try.func4, Try.ntmps4
    go_wp2_with (go_at_call 8; refine (awake_c _).mono ?_; rintro e wc ⟨rfl, hb⟩; have HB1 := Lib.hid (HBA.out.trans (hb.mono HBA.out.size)); clear hb)
    go_ret
    exact ⟨rfl, HB1.out⟩
theorem mem_walk (a0 b10 b11 : Int) (b12 : Bool) (S : Option Addr) (ns cs : Nat) (a3 : Int) (w : World) (w0 : (Lit.int .i64 a0).wf = true) (w11 : (Lit.int .i64 b11).wf = true) (w2 : ∀ i, i < ns → ∃ ad x, S = some ad ∧ ActOk w (ad.add (i * 10)) x) (w3 : (Lit.int .i64 a3).wf = true) :
    Calls Try.prog 4 #[.int .i64 a0, .agg #[.int .i64 b10, .int .i64 b11, .bool b12], .slice S ns cs, .int .i64 a3] w fun e w' => e = .returned (.bool true) ∧ Below w.heap.size w w' := by
  by_cases h : a0 < 0 ∨ 2 < a0
  · exact mem_far a0 b10 b11 b12 S ns cs a3 w h
  · have q1 := bounds_i64 w11
    have q2 := bounds_i64 w3
    obtain ⟨k, rfl⟩ := Int.eq_ofNat_of_zero_le (show 0 ≤ a0 by omega)
    exact mem_law k (by omega) b10 b11 b12 S ns cs a3 w q1.1 q2.1 w2
end Go.Proofs.Ytlllbgmnheikgaa.St
