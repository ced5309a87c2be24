/-
  A script, a slice of acts that came in, as it is read. No condition.
-/
import Derived.Test.YtlllbgmnheikgaaStV
import Derived.Deep.Slices
import Derived.Deep.Fields
import Derived.ChangeSame
namespace Go.Proofs.Ytlllbgmnheikgaa.St
set_option linter.unusedVariables false
set_option linter.unusedSimpArgs false
open Go.ChangeShapes Go.WideShapes Go.Deep Go.RowKit Go.Proofs.YtlllbgmnheikgaaW.PrintWords Go.Proofs.Ytlllbgmnheikgaa.PStoreNone
section
variable {H : Type} {enc : TypeId × Value → H} {w : World} {base : Nat} {held : Bool}
theorem one_cell {cs : List Value} {i : Nat} (h : i < cs.length) : (cs.drop i).take 1 = [cs[i]] := by
  rw [List.drop_eq_getElem_cons h]; rfl
theorem acts_open {fuel : Nat} {cs : List Value} {x : DataW H × List MemPlace} (h : DataW.trod enc Try.prog w base (fun _ => true) held fuel 47 cs = some x) :
    ∃ (S : Option Addr) (len cap : Nat), cs = [.slice S len cap] ∧ ∀ i, i < len → ∃ ad x, S = some ad ∧ ActOk w (ad.add (i * 10)) x := by
  rcases open_slice Try.underlying47 h with ⟨h0, _⟩ | ⟨a, len, cap, m, n, D, Pl, hcs, hb, hl, hm, hmm, hx, hi⟩
  · exact ⟨none, 0, 0, h0, fun i hi => by omega⟩
  · refine ⟨some a, len, cap, hcs, fun i him => ?_⟩
    have hmc : m = cap := by rw [hmm]; rfl
    obtain ⟨cs', hc, ht'⟩ := hi i (by omega)
    have hC : Try.prog.cellsOf 49 = 10 := by kernel_rfl
    rw [hC] at hc
    obtain ⟨_, hcl, hat⟩ := World.cells?_some hc
    obtain ⟨ys, n', hn', hy, hlen, hyl, hf⟩ := DataW.trod_struct Try.underlying49 ht'
    have hyl' : ys.length = 7 := hyl
    have g0 : DataW.trod enc Try.prog w base (fun _ => true) held n' 3 ((cs'.drop 0).take (Try.prog.cellsOf 3)) = ys[0]? := hf 0 _ rfl
    rw [show Try.prog.cellsOf 3 = 1 from by kernel_rfl, one_cell (i := 0) (by omega), List.getElem?_eq_getElem (by rw [hyl']; decide)] at g0
    obtain ⟨z0, e0, _, w0⟩ := DataW.trod_int Try.underlying3 g0
    simp only [List.cons.injEq, and_true] at e0
    have g1 : DataW.trod enc Try.prog w base (fun _ => true) held n' 24 ((cs'.drop 1).take (Try.prog.cellsOf 24)) = ys[1]? := hf 1 _ rfl
    rw [show Try.prog.cellsOf 24 = 1 from by kernel_rfl, one_cell (i := 1) (by omega), List.getElem?_eq_getElem (by rw [hyl']; decide)] at g1
    obtain ⟨z1, e1, _, w1⟩ := DataW.trod_int Try.underlying24 g1
    simp only [List.cons.injEq, and_true] at e1
    have g2 : DataW.trod enc Try.prog w base (fun _ => true) held n' 24 ((cs'.drop 2).take (Try.prog.cellsOf 24)) = ys[2]? := hf 2 _ rfl
    rw [show Try.prog.cellsOf 24 = 1 from by kernel_rfl, one_cell (i := 2) (by omega), List.getElem?_eq_getElem (by rw [hyl']; decide)] at g2
    obtain ⟨z2, e2, _, w2⟩ := DataW.trod_int Try.underlying24 g2
    simp only [List.cons.injEq, and_true] at e2
    have g3 : DataW.trod enc Try.prog w base (fun _ => true) held n' 24 ((cs'.drop 3).take (Try.prog.cellsOf 24)) = ys[3]? := hf 3 _ rfl
    rw [show Try.prog.cellsOf 24 = 1 from by kernel_rfl, one_cell (i := 3) (by omega), List.getElem?_eq_getElem (by rw [hyl']; decide)] at g3
    obtain ⟨z3, e3, _, w3⟩ := DataW.trod_int Try.underlying24 g3
    simp only [List.cons.injEq, and_true] at e3
    have g4 : DataW.trod enc Try.prog w base (fun _ => true) held n' 5 ((cs'.drop 4).take (Try.prog.cellsOf 5)) = ys[4]? := hf 4 _ rfl
    rw [show Try.prog.cellsOf 5 = 1 from by kernel_rfl, one_cell (i := 4) (by omega), List.getElem?_eq_getElem (by rw [hyl']; decide)] at g4
    obtain ⟨z4, e4, _, w4⟩ := DataW.trod_int Try.underlying5 g4
    simp only [List.cons.injEq, and_true] at e4
    have g5 : DataW.trod enc Try.prog w base (fun _ => true) held n' 29 ((cs'.drop 5).take (Try.prog.cellsOf 29)) = ys[5]? := hf 5 _ rfl
    rw [show Try.prog.cellsOf 29 = 1 from by kernel_rfl, one_cell (i := 5) (by omega), List.getElem?_eq_getElem (by rw [hyl']; decide)] at g5
    have g6 : DataW.trod enc Try.prog w base (fun _ => true) held n' 26 ((cs'.drop 6).take (Try.prog.cellsOf 26)) = ys[6]? := hf 6 _ rfl
    rw [show Try.prog.cellsOf 26 = 4 from by kernel_rfl, List.getElem?_eq_getElem (by rw [hyl']; decide)] at g6
    obtain ⟨ys6, n6, _, _, hl6, hyl6, hf6⟩ := DataW.trod_struct Try.underlying26 g6
    have hyl6' : ys6.length = 4 := hyl6
    have hc6 : (cs'.drop 6).take 4 = cs'.drop 6 := List.take_of_length_le (by rw [List.length_drop]; omega)
    rw [hc6] at hf6
    have q0 : DataW.trod enc Try.prog w base (fun _ => true) held n6 3 (((cs'.drop 6).drop 0).take (Try.prog.cellsOf 3)) = ys6[0]? := hf6 0 _ rfl
    rw [List.drop_drop, show Try.prog.cellsOf 3 = 1 from by kernel_rfl, one_cell (i := 6 + 0) (by omega), List.getElem?_eq_getElem (by rw [hyl6']; decide)] at q0
    obtain ⟨z6, e6, _, _⟩ := DataW.trod_int Try.underlying3 q0
    simp only [List.cons.injEq, and_true] at e6
    have q1 : DataW.trod enc Try.prog w base (fun _ => true) held n6 24 (((cs'.drop 6).drop 1).take (Try.prog.cellsOf 24)) = ys6[1]? := hf6 1 _ rfl
    rw [List.drop_drop, show Try.prog.cellsOf 24 = 1 from by kernel_rfl, one_cell (i := 6 + 1) (by omega), List.getElem?_eq_getElem (by rw [hyl6']; decide)] at q1
    obtain ⟨z7, e7, _, _⟩ := DataW.trod_int Try.underlying24 q1
    simp only [List.cons.injEq, and_true] at e7
    have q2 : DataW.trod enc Try.prog w base (fun _ => true) held n6 24 (((cs'.drop 6).drop 2).take (Try.prog.cellsOf 24)) = ys6[2]? := hf6 2 _ rfl
    rw [List.drop_drop, show Try.prog.cellsOf 24 = 1 from by kernel_rfl, one_cell (i := 6 + 2) (by omega), List.getElem?_eq_getElem (by rw [hyl6']; decide)] at q2
    obtain ⟨z8, e8, _, _⟩ := DataW.trod_int Try.underlying24 q2
    simp only [List.cons.injEq, and_true] at e8
    have q3 : DataW.trod enc Try.prog w base (fun _ => true) held n6 4 (((cs'.drop 6).drop 3).take (Try.prog.cellsOf 4)) = ys6[3]? := hf6 3 _ rfl
    rw [List.drop_drop, show Try.prog.cellsOf 4 = 1 from by kernel_rfl, one_cell (i := 6 + 3) (by omega), List.getElem?_eq_getElem (by rw [hyl6']; decide)] at q3
    obtain ⟨z9, e9, _⟩ := DataW.trod_bool Try.underlying4 q3
    simp only [List.cons.injEq, and_true] at e9
    have hcell : ∀ j v, (hj : j < 10) → cs'[j]'(by omega) = v → w.cell? ((a.add (i * 10)).add j) = some v := fun j v hj e => by
      rw [hat j hj, List.getElem?_eq_getElem (by omega), e]
    have hL : ∃ A l c, cs'[5]'(by omega) = Value.slice A l c ∧ ∃ l2 : List Int, l = l2.length ∧ ReadsInt w .u8 A l2.length l2 ∧ l2.length ≤ c := by
      rcases open_ints Try.underlying29 Try.underlying5 (by kernel_rfl) g5 with ⟨h, _⟩ | ⟨a5, len5, cap5, zs, h, _, hl5, hm5, hz5, _, hcell5, hw5⟩
      · simp only [List.cons.injEq, and_true] at h
        exact ⟨none, 0, 0, h, [], rfl, ⟨rfl, by decide, fun h => by cases h⟩, Nat.le_refl _⟩
      · simp only [List.cons.injEq, and_true] at h
        obtain ⟨l0, e, hr, _, _, hc⟩ := ReadsInt.ofRowC (k := .u8) (w := w) (a := some a5) (len := len5) (cap := cap5) (zs := zs) (.inr ⟨a5, rfl, hl5, hm5, by simpa using hz5, hcell5, hw5⟩)
        exact ⟨_, _, _, h, l0, e, hr, hc⟩
    obtain ⟨A5, l5, c5, e5, l2, rfl, hr5, hle5⟩ := hL
    have b0 := bounds_i64 w0
    have b1 := bounds_u64 w1
    have b2 := bounds_u64 w2
    have b3 := bounds_u64 w3
    obtain ⟨n1, rfl⟩ := Int.eq_ofNat_of_zero_le b1.1
    obtain ⟨n2, rfl⟩ := Int.eq_ofNat_of_zero_le b2.1
    obtain ⟨n3, rfl⟩ := Int.eq_ofNat_of_zero_le b3.1
    refine ⟨a, ⟨z0, n1, n2, n3, z4, A5, c5, l2, z6, z7, z8, z9⟩, rfl, ?_, hcell 1 _ (by decide) e1, hcell 2 _ (by decide) e2, hcell 3 _ (by decide) e3, hcell 4 _ (by decide) e4, hcell 5 _ (by decide) e5, hcell 6 _ (by decide) e6, hcell 7 _ (by decide) e7, hcell 8 _ (by decide) e8, hcell 9 _ (by decide) e9, hr5, hle5, b0, by simpa using (by omega : n3 < 18446744073709551616), by simpa using (by omega : n1 < 18446744073709551616)⟩
    have := hcell 0 _ (by decide) e0
    simpa [Addr.add] using this
end
end Go.Proofs.Ytlllbgmnheikgaa.St
