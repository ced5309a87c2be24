/-
  The row of the law StoreGrows, out of its walk by hand. Condition: none.
  (The frame is what the kit's print.py writes for a row.)
-/
import Derived.Test.YtlllbgmnheikgaaRows
import Derived.Test.YtlllbgmnheikgaaStR
import Derived.WalkKit
import Derived.ProofKit
import Derived.OpenShut
import Derived.ShutString
import Derived.ChangeOld
import Derived.Below
import Derived.SizedLaws
import Derived.Lib.SmallJoins
import Derived.Test.YtlllbgmnheikgaaWSized
namespace Go.Proofs.Ytlllbgmnheikgaa.storeGrows
open Go.ChangeShapes Go.WideShapes Go.ChangeAt Go.RowKit
open Go.ChangeMaps (open_string shut_string)
set_option linter.unusedVariables false
theorem own : ownKnob Try.prog.godebug = none := by kernel_rfl
set_option maxRecDepth 100000 in
theorem lifted (os : Os) (started : os.Started) (H : Type) (enc : TypeId × Value → H) :
    ReturnsInHanded {} Try.checked os 3 .any (Rows.storeGrowsSpec.pre6 enc Try.prog Try.f3 Rows.storeGrowsRow.domain false) (Rows.storeGrowsSpec.post enc Try.prog Try.f3 false true false false) := by
  refine returnsInHanded_of_change_sized (C := Try.checked) own started (by kernel_rfl) Try.func3
    (ChangeSpec.witness6 (enc := enc) (C := Try.checked) false ⟨#[], #[.agg #[.int .i64 0, .int .i64 0, .bool false], .int .u64 0, .int .i64 0, .agg #[.int .i64 0, .int .u64 0, .int .u64 0, .bool false], .int .i64 0], []⟩ 8 (by kernel_rfl) (by kernel_rfl) (by kernel_rfl) (by kernel_rfl)) ?_
  intro W base args ds gs before hval0 hW hcnd hsz0 _
  have hsz : (DataW.weightsEach Try.prog (Try.f3.params.toList ++ Rows.storeGrowsSpec.plain.varTypes Try.prog) (ds ++ gs)).all (· ≤ reachBytes) = true := hsz0
  have hval : ∀ (j : Nat) t v, Try.f3.params[j]? = some t → args[j]? = some v → Value.okWide Try.prog W .any base t v := hval0
  have hW' := hW
  obtain ⟨p, q, hA0, hV, rfl, hfz, hnd⟩ := hW
  have hA : DataW.TrodAll enc Try.prog W 0 (fun _ => true) true Try.f3.params.toList args.toList ds p := hA0
  rw [Try.params3] at hA hval hsz
  obtain ⟨v0, vs0, d0, ds0, p0, q0, hargs, rfl, rfl, h0, r0⟩ := trodAll_cons hA
  obtain ⟨v1, vs1, d1, ds1, p1, q1, rfl, rfl, rfl, h1, r1⟩ := trodAll_cons r0
  obtain ⟨v2, vs2, d2, ds2, p2, q2, rfl, rfl, rfl, h2, r2⟩ := trodAll_cons r1
  obtain ⟨v3, vs3, d3, ds3, p3, q3, rfl, rfl, rfl, h3, r3⟩ := trodAll_cons r2
  obtain ⟨v4, vs4, d4, ds4, p4, q4, rfl, rfl, rfl, h4, r4⟩ := trodAll_cons r3
  obtain ⟨rfl, rfl, rfl⟩ := trodAll_nil r4
  obtain rfl : args = #[v0, v1, v2, v3, v4] := by cases args; simp_all
  obtain ⟨rfl, rfl⟩ := trodVars_none hV
  obtain ⟨c00, c01, c02, g00, g01, g02, fuel0, rfl, rfl, rfl, hy00, hy01, hy02⟩ := Go.Joins.open_agg3 Try.underlying23 (by kernel_rfl) (by kernel_rfl) (hval 0 23 v0 rfl rfl) h0
  obtain ⟨b00, e00, rfl, w00⟩ := DataW.trod_int Try.underlying3 hy00
  obtain ⟨b01, e01, rfl, w01⟩ := DataW.trod_int Try.underlying3 hy01
  obtain ⟨b02, e02, rfl⟩ := DataW.trod_bool Try.underlying4 hy02
  simp at e00 e01 e02
  subst e00 e01 e02
  obtain ⟨a1, rfl, rfl, rfl, w1⟩ := open_int Try.underlying24 (hval 1 24 v1 rfl rfl) h1
  obtain ⟨a2, rfl, rfl, rfl, w2⟩ := open_int Try.underlying3 (hval 2 3 v2 rfl rfl) h2
  obtain ⟨c30, c31, c32, c33, g30, g31, g32, g33, fuel3, rfl, rfl, rfl, hy30, hy31, hy32, hy33⟩ := Go.Joins.open_agg4 Try.underlying26 (by kernel_rfl) (by kernel_rfl) (hval 3 26 v3 rfl rfl) h3
  obtain ⟨b30, e30, rfl, w30⟩ := DataW.trod_int Try.underlying3 hy30
  obtain ⟨b31, e31, rfl, w31⟩ := DataW.trod_int Try.underlying24 hy31
  obtain ⟨b32, e32, rfl, w32⟩ := DataW.trod_int Try.underlying24 hy32
  obtain ⟨b33, e33, rfl⟩ := DataW.trod_bool Try.underlying4 hy33
  simp at e30 e31 e32 e33
  subst e30 e31 e32 e33
  obtain ⟨a4, rfl, rfl, rfl, w4⟩ := open_int Try.underlying3 (hval 4 3 v4 rfl rfl) h4
  clear hA0 hval0 hsz0 hsz
  refine (St.grows_walk b00 b01 b02 a1 a2 b30 b31 b32 b33 a4 W w01 w1 w2 w4).mono fun e W' ⟨he, bel⟩ => ?_
  subst he
  exact ⟨_, rfl, _, _, _, [], _, [], hW', trodAll_mk1 (shut_bool Try.underlying4 _), (trodAll_cons_mk (Go.Joins.shut_agg3 (P := Try.prog) (y0 := (.lit (.int .i64 b00), [])) (y1 := (.lit (.int .i64 b01), [])) (y2 := (.lit (.bool b02), [])) Try.underlying23 (by kernel_rfl) (by kernel_rfl) ⟨1, by simp [DataW.trod, Try.underlying3, w00]⟩ ⟨1, by simp [DataW.trod, Try.underlying3, w01]⟩ ⟨1, by simp [DataW.trod, Try.underlying4]⟩) (trodAll_cons_mk (shut_int Try.underlying24 w1) (trodAll_cons_mk (shut_int Try.underlying3 w2) (trodAll_cons_mk (Go.Joins.shut_agg4 (P := Try.prog) (y0 := (.lit (.int .i64 b30), [])) (y1 := (.lit (.int .u64 b31), [])) (y2 := (.lit (.int .u64 b32), [])) (y3 := (.lit (.bool b33), [])) Try.underlying26 (by kernel_rfl) (by kernel_rfl) ⟨1, by simp [DataW.trod, Try.underlying3, w30]⟩ ⟨1, by simp [DataW.trod, Try.underlying24, w31]⟩ ⟨1, by simp [DataW.trod, Try.underlying24, w32]⟩ ⟨1, by simp [DataW.trod, Try.underlying4]⟩) (trodAll_cons_mk (shut_int Try.underlying3 w4) trodAll_mk0))))), rfl, bel.frame _, fun h => by cases h⟩
theorem over : Rows.storeGrowsRow.holds Try.pinned (OpenSpec.ofChange Rows.storeGrowsSpec) :=
  OpenClaim.holds_of_wide 3 Try.f3 rfl rfl rfl rfl rfl rfl rfl ⟨rfl, rfl, rfl, rfl, rfl⟩ rfl rfl rfl rfl rfl (by kernel_rfl) Try.func3 (by kernel_rfl)
    (of_decide_eq_true (by kernel_rfl)) (by unfold Func.isWrapper; first | (rw [if_pos (by decide +kernel)]; kernel_rfl) | (rw [if_neg (by decide +kernel)]; exact ⟨rfl, rfl⟩))
    (fun os started H enc _ => lifted os started H enc)
theorem proved : Rows.StoreGrowsSaid := over
#print axioms proved
end Go.Proofs.Ytlllbgmnheikgaa.storeGrows
namespace Go.Proofs.Ytlllbgmnheikgaa
/-- The row, under a short name, for the claim. -/
theorem storeGrows_holds : Rows.StoreGrowsSaid := storeGrows.proved
end Go.Proofs.Ytlllbgmnheikgaa
