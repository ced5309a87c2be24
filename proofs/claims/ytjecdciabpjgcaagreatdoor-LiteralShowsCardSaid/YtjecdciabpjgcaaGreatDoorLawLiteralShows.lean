/-
  The row of the law LiteralShows, out of its walk by hand. Condition: none.
  (The frame is what the kit's print.py writes for a row.)
-/
import Derived.Test.YtjecdciabpjgcaaGreatDoorRows
import Derived.Test.YtjecdciabpjgcaaGreatDoorTie
import Derived.Test.YtjecdciabpjgcaaGreatDoorCards
import Derived.SevenTiedAt
import Derived.LaidMore
import Derived.Lay
import Derived.MakeChecks
import Derived.Stop.Joined
import Derived.WalkKit
import Derived.ProofKit
import Derived.OpenShut
import Derived.ShutString
import Derived.ChangeOld
import Derived.Below
import Derived.SizedLaws
import Derived.Lib.SmallJoins
import Derived.Lib.Hide
import Derived.Test.YtjecdciabpjgcaaGreatDoorZw0
import Derived.Test.YtjecdciabpjgcaaGreatDoorZw1
import Derived.Test.YtjecdciabpjgcaaGreatDoorZw2
import Derived.Test.YtjecdciabpjgcaaGreatDoorZw3
import Derived.Test.YtjecdciabpjgcaaGreatDoorZw4
import Derived.Test.YtjecdciabpjgcaaGreatDoorZw5
import Derived.Test.YtjecdciabpjgcaaGreatDoorZw6
import Derived.Test.YtjecdciabpjgcaaGreatDoorZw7
import Derived.Test.YtjecdciabpjgcaaGreatDoorZw8
import Derived.Test.YtjecdciabpjgcaaGreatDoorZw9
import Derived.Test.YtjecdciabpjgcaaGreatDoorZw10
import Derived.Test.YtjecdciabpjgcaaGreatDoorZw11
namespace Go.Proofs.YtjecdciabpjgcaaGreatDoor.literalShows
open Go.ChangeShapes Go.WideShapes Go.ChangeAt Go.RowKit
open Go.ChangeMaps (open_string shut_string)
set_option linter.unusedVariables false
theorem own : ownKnob Tryz.prog.godebug = none := by kernel_rfl
set_option maxRecDepth 100000 in
theorem lifted (os : Os) (started : os.Started) (H : Type) (enc : TypeId × Value → H) :
    ReturnsInHanded {} Tryz.checked os 5 .any (fun w args => (Rows.literalShowsSpec.pre enc Tryz.prog Tryz.f5 [] false w args ∧ laidMetH Tryz.prog Rows.literalShowsRow.laid w) ∧ sizedMet enc Tryz.prog Tryz.f5 (OpenSpec.ofChange Rows.literalShowsSpec) false w args) (Rows.literalShowsSpec.post enc Tryz.prog Tryz.f5 false true false false) := by
  refine Lx.returnsInHanded_shaped (C := Tryz.checked) (X := fun w _ => laidMetH Tryz.prog Rows.literalShowsRow.laid w) (fun _ _ _ hh h => h.of_heap hh) own started (by kernel_rfl) Tryz.func5
    (ChangeSpec.witness_shaped (enc := enc) (C := Tryz.checked) (os := os) (X := fun w _ => laidMetH Tryz.prog Rows.literalShowsRow.laid w) false (World.laidAll Tryz.prog os Rows.literalShowsRow.laid) #[.int .i64 0, .int .u64 0] 8 (World.laidAll_os _ _ _) (World.shaped_of_ZipB (by kernel_rfl) (by kernel_rfl)) (by kernel_rfl) (by kernel_rfl) (by kernel_rfl) (by rw [MakeChecks.laidMetH_plain _ _ _ (by kernel_rfl)]; exact laidMet_laidAll _ (by kernel_rfl) (by kernel_rfl))) ?_
  intro W base args ds gs before hval0 hW hcnd hsz0 hL hsh _
  have hsz : (DataW.weightsEach Tryz.prog (Tryz.f5.params.toList ++ Rows.literalShowsSpec.plain.varTypes Tryz.prog) (ds ++ gs)).all (· ≤ reachBytes) = true := hsz0
  have hval : ∀ (j : Nat) t v, Tryz.f5.params[j]? = some t → args[j]? = some v → Value.okWide Tryz.prog W .any base t v := hval0
  have hW' := hW
  obtain ⟨p, q, hA0, hV, rfl, hfz, hnd⟩ := hW
  have hA : DataW.TrodAll enc Tryz.prog W 0 (fun _ => true) true Tryz.f5.params.toList args.toList ds p := hA0
  rw [Tryz.params5] at hA hval hsz
  obtain ⟨v0, vs0, d0, ds0, p0, q0, hargs, rfl, rfl, h0, r0⟩ := trodAll_cons hA
  obtain ⟨v1, vs1, d1, ds1, p1, q1, rfl, rfl, rfl, h1, r1⟩ := trodAll_cons r0
  obtain ⟨rfl, rfl, rfl⟩ := trodAll_nil r1
  obtain rfl : args = #[v0, v1] := by cases args; simp_all
  obtain ⟨rfl, rfl⟩ := trodVars_none hV
  obtain ⟨a0, rfl, rfl, rfl, w0⟩ := open_int Tryz.underlying3 (hval 0 3 v0 rfl rfl) h0
  obtain ⟨a1, rfl, rfl, rfl, w1⟩ := open_int Tryz.underlying23 (hval 1 23 v1 rfl rfl) h1
  clear hA0 hval0 hsz0 hsz
  refine (Lz.shows_row a0 a1 W w0 w1 (Lz.tw_of hsh hL)).mono fun e W' ⟨he, bel⟩ => ?_
  subst he
  exact ⟨_, rfl, _, _, _, [], _, [], hW', trodAll_mk1 (shut_bool Tryz.underlying4 _), (trodAll_cons_mk (shut_int Tryz.underlying3 w0) (trodAll_cons_mk (shut_int Tryz.underlying23 w1) trodAll_mk0)), rfl, bel.frame _, fun h => by cases h⟩
theorem over : Rows.literalShowsRow.holds Tryz.pinned (OpenSpec.ofChange Rows.literalShowsSpec) :=
  OpenClaim.holds_of_wide 5 Tryz.f5 rfl rfl rfl rfl rfl rfl rfl ⟨rfl, rfl, rfl, rfl, rfl⟩ rfl rfl rfl rfl rfl (by kernel_rfl) Tryz.func5 (by kernel_rfl)
    (of_decide_eq_true (by kernel_rfl)) (by unfold Func.isWrapper; first | (rw [if_pos (by decide +kernel)]; kernel_rfl) | (rw [if_neg (by decide +kernel)]; exact ⟨rfl, rfl⟩))
    (fun os started H enc _ => lifted os started H enc)
theorem proved : Rows.LiteralShowsSaid := over
end Go.Proofs.YtjecdciabpjgcaaGreatDoor.literalShows
namespace Go.Proofs.YtjecdciabpjgcaaGreatDoor
open Go
set_option maxRecDepth 100000 in
/-- The row, its laid variables tied to the program's text: the card. -/
theorem literalShows_holds : Rows.LiteralShowsCardSaid :=
  Claim7.holds_tied_plain_at .later [] [.data, .data, .data, .data, .pinned] true (true, "d132eb9a0b0c3394e0c57f5579d09f0bab0cb2e7c014e711738dfc5152216922") false
    literalShows.proved (fun _ h => by cases h) (by kernel_rfl) (fun _ h => by cases h) literalShows_row_tie rfl ⟨rfl, rfl⟩ (by kernel_rfl) rfl
    (fun f fn hf hfn => by
      obtain rfl : f = 5 := Option.some.inj ((show Tryz.prog.funcNamed "bodkin/bodkinlaw08.LiteralShows" = some 5 by kernel_rfl).symm.trans hf) |>.symm
      obtain rfl : fn = Tryz.f5 := (Option.some.inj (Tryz.func5.symm.trans hfn)).symm
      exact ⟨by kernel_rfl, fun j t ht => by
        rw [Tryz.params5] at ht
        have hm : t ∈ [3, 23] := by have := Array.mem_of_getElem? ht; simp at this ⊢; omega
        have hall : ([3, 23].all fun u => !Tryz.prog.wantsStandIn u) = true := by kernel_rfl
        exact (show Tryz.prog.wantsStandIn t = false by simpa using List.all_eq_true.1 hall t hm)⟩)
    (by kernel_rfl)
#print axioms literalShows_holds
end Go.Proofs.YtjecdciabpjgcaaGreatDoor

