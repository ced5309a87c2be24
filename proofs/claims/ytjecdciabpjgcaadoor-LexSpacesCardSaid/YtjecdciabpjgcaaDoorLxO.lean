/-
  The walk of bodkinlaw18.awake. Condition: the library's variable internal/bytealg.MaxLen holds a number.
-/
import Derived.Test.YtjecdciabpjgcaaDoorLxN
namespace Go.Proofs.YtjecdciabpjgcaaDoor.Lx
set_option linter.unusedVariables false
set_option linter.unusedSimpArgs false
open Go.RowKit Go.Proofs.YtjecdciabpjgcaaDoorW.PrintWords Go.Proofs.YtjecdciabpjgcaaDoorW.PrintLast Go.Proofs.YtjecdciabpjgcaaDoor.PLx Go.Proofs.YtjecdciabpjgcaaDoor.Lb

def aw1 : ByteArray := ⟨#[40, 97, 32, 34, 98, 92, 52, 49, 34, 32, 40, 59, 32, 40, 59, 120, 59, 41, 32, 59, 41, 32, 41]⟩
def aw2 : ByteArray := ⟨#[34, 97, 34, 34, 98, 34]⟩
def aw3 : ByteArray := ⟨#[40, 59]⟩
def aw4 : ByteArray := ⟨#[40, 97, 32, 40, 98, 41, 32, 34, 99, 34, 41]⟩
def tk1 : List Tok := [⟨0, [40], 0⟩, ⟨2, [97], 1⟩, ⟨3, [98, 65], 3⟩, ⟨1, [41], 22⟩]
theorem tok1 : decide (tokF aw1 = some tk1) = true := by kernel_rfl
theorem tok2 : decide (tokF aw2 = none) = true := by kernel_rfl
theorem tok3 : decide (tokF aw3 = none) = true := by kernel_rfl
def tr4 : F := .cons 4 [] (.cons 2 [97] .nil (.cons 4 [] (.cons 2 [98] .nil .nil) (.cons 3 [99] .nil .nil))) .nil
theorem tre4 : decide (treesF aw4 = (0, tr4)) = true := by kernel_rfl
theorem quo5 : decide (quo [97, 10] = [34, 97, 92, 48, 97, 34]) = true := by kernel_rfl
def aw5 : ByteArray := ⟨#[97, 10]⟩
structure AwQ (w : World) (e : Ending) (w' : World) : Prop where mk ::
  (out : e = .returned (.bool true) ∧ Below w.heap.size w w')
set_option maxRecDepth 1000000 in
set_option maxHeartbeats 4000000 in
theorem awake_c (w : World) (hm : ML w) : Calls Tryd.prog 9 #[] w (AwQ w) := by
  have HM := Lib.hid hm
  clear hm
  go_enter Tryd.func9, Tryd.ntmps9
  go_wp2_with fail
  refine (tokens_c aw1 (by decide) w HM.out).mono ?_
  intro e w1 hq
  obtain ⟨hb, hor⟩ := hq.out
  rw [of_decide_eq_true tok1] at hor
  rcases hor with ⟨hn, _⟩ | ⟨ks, v, hks, he, ho⟩
  · cases hn
  have hks := (Option.some.inj hks).symm
  subst hks
  subst he
  obtain ⟨g1, c1, rfl, hgb, hgl⟩ : ∃ g c, v = .slice (some ⟨g, 0, none⟩) 4 c ∧ w.heap.size ≤ g ∧ g < w1.heap.size := by
    rcases own_form ho with ⟨h0, _⟩ | h
    · cases h0
    · exact h
  have HB1 := Lib.hid hb
  have t := ho.cells (g := g1) rfl
  have t0 := t 6 _ (show (tcl tk1)[6]? = some (.int .i64 3) from rfl)
  have t1 := t 7 _ (show (tcl tk1)[7]? = some (.string ⟨#[98, 65]⟩) from rfl)
  rw [add_plain] at t0 t1
  have T0 := Lib.hid t0
  have T1 := Lib.hid t1
  have HM1 := Lib.hid (HM.out.below hb)
  clear hq hb ho t t0 t1
  go_wp2_with fail
  refine (tokens_c aw2 (by decide) w1 HM1.out).mono ?_
  intro e w2 hq
  obtain ⟨hb, hor⟩ := hq.out
  rw [of_decide_eq_true tok2] at hor
  rcases hor with ⟨_, he⟩ | ⟨ks, v, hks, _⟩
  rotate_left
  · cases hks
  subst he
  have HB2 := Lib.hid hb
  have HM2 := Lib.hid (HM1.out.below hb)
  clear hq hb
  go_wp2_with fail
  refine (tokens_c aw3 (by decide) w2 HM2.out).mono ?_
  intro e w3 hq
  obtain ⟨hb, hor⟩ := hq.out
  rw [of_decide_eq_true tok3] at hor
  rcases hor with ⟨_, he⟩ | ⟨ks, v, hks, _⟩
  rotate_left
  · cases hks
  subst he
  have HB3 := Lib.hid hb
  have HM3 := Lib.hid (HM2.out.below hb)
  clear hq hb
  go_wp2_with fail
  refine (trees_c aw4 (by decide) w3 HM3.out).mono ?_
  intro e w4 hq
  obtain ⟨v, he, hR, hb⟩ := hq.out
  rw [of_decide_eq_true tre4] at he hR
  subst he
  have HB4 := Lib.hid hb
  obtain ⟨gt, cap, rfl, hgtb, hgtl, _⟩ := Kd.R_form hR (by decide)
  obtain ⟨A, c, hv, _, hC⟩ := Kd.R_reads hR
  injection hv with hA _ _
  subst hA
  obtain ⟨ad, A2, c2, ha, _, _, k2, _, _⟩ := at_T48 hC 0 (by decide) (by decide)
  have ha := (Option.some.inj ha).symm
  subst ha
  rw [add_plain] at k2
  have k2 : w4.cell? ⟨gt, 2, none⟩ = some (.slice A2 3 c2) := k2
  have t0 : w4.cell? ⟨g1, 6, none⟩ = some (.int .i64 3) := (HB4.out.cell (World.block_lt_of_cell? _ _ ((HB3.out.cell (World.block_lt_of_cell? _ _ ((HB2.out.cell (World.block_lt_of_cell? _ _ T0.out)).trans T0.out))).trans ((HB2.out.cell (World.block_lt_of_cell? _ _ T0.out)).trans T0.out)))).trans ((HB3.out.cell (World.block_lt_of_cell? _ _ ((HB2.out.cell (World.block_lt_of_cell? _ _ T0.out)).trans T0.out))).trans ((HB2.out.cell (World.block_lt_of_cell? _ _ T0.out)).trans T0.out))
  have t1 : w4.cell? ⟨g1, 7, none⟩ = some (.string ⟨#[98, 65]⟩) := (HB4.out.cell (World.block_lt_of_cell? _ _ ((HB3.out.cell (World.block_lt_of_cell? _ _ ((HB2.out.cell (World.block_lt_of_cell? _ _ T1.out)).trans T1.out))).trans ((HB2.out.cell (World.block_lt_of_cell? _ _ T1.out)).trans T1.out)))).trans ((HB3.out.cell (World.block_lt_of_cell? _ _ ((HB2.out.cell (World.block_lt_of_cell? _ _ T1.out)).trans T1.out))).trans ((HB2.out.cell (World.block_lt_of_cell? _ _ T1.out)).trans T1.out))
  have HB5 : Hid (Below w.heap.size w w4) := Lib.hid (below_step (below_step (below_step HB1.out HB2.out) HB3.out) HB4.out)
  clear hq hb hR hC HM HM1 HM2 HM3 HB1 HB2 HB3 HB4 T0 T1
  go_wp2_with fail
  refine (quote_c aw5 (by decide) w4).mono ?_
  intro e w5 hq
  obtain ⟨he, hb⟩ := hq.out
  have h5 : (⟨(quo aw5.data.toList).toArray⟩ : ByteArray) = ⟨#[34, 97, 92, 48, 97, 34]⟩ := by
    have : quo aw5.data.toList = [34, 97, 92, 48, 97, 34] := of_decide_eq_true quo5
    rw [this]
  rw [h5] at he
  subst he
  have HB6 := Lib.hid (below_step HB5.out hb)
  clear hq hb h5 t0 t1 k2
  go_wp2
  go_ret
  exact ⟨rfl, HB6.out⟩
end Go.Proofs.YtjecdciabpjgcaaDoor.Lx
